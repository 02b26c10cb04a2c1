/- A part of a proof: what functions of the program compute, and plain facts on that. -/
import Derived.Test.YthbbcjimiemdgaaCartViewsP4
set_option linter.unusedVariables false
set_option linter.unusedSimpArgs false
namespace Go.Proofs
open Go Go.Vx Go.RowKit
namespace Tt
set_option maxRecDepth 20000 in
set_option maxHeartbeats 4000000 in
theorem ins128_ok (w : World) (S : Nat → Prop) (a : Option Addr) (c : Nat) (l : List Cen) (i : Nat) (hi : i ≤ l.length) (x : Cen) (b : Option Addr) (c2 : Nat) (hv : Rd w (.slice b 1 c2) 7 (List.map cec [x])) (hpl : PlainR w (.slice b 1 c2)) (hnS : ¬ S (bkS (.slice b 1 c2))) (hvb : bkS (.slice b 1 c2) < w.heap.size) (hN : (l.length + 1) * 25 ≤ 140737488355328) (hR : (row (.slice a l.length c) (l.map cec) 128 7).holds w S) (hlt : ∀ b, S b → b < w.heap.size) : Calls Try.prog 90 #[.slice a l.length c, .int .i64 ((i : Nat) : Int), .slice b 1 c2] w (fun e w' => ∃ x' : Option Addr × Nat, e = .returned (.slice x'.1 (insL l i x).length x'.2) ∧ Own w S w' [row (.slice x'.1 (insL l i x).length x'.2) ((insL l i x).map cec) 128 7] ∧ True) := by
  refine calls_of_Wn (n := 95) Try.func90 rfl Try.ntmps90 rfl ?_
  have hs := Own.lent hR hlt
  have hn := (hs.rd 0 rfl).sml
  have hlc := (hs.rd 0 rfl).roomM
  have hvo : ∀ (w1 : World) (L1 : List Res), Own w S w1 L1 → Rd w1 (.slice b 1 c2) 7 (List.map cec [x]) := fun w1 L1 h => hv.own h hnS
  refine W_seq ?_
  refine W_region ?_
  refine RW_op (L_assign (V := .slice none 0 0) rfl ?_)
  refine RW_nil ?_
  refine W_seq ?_
  refine W_region ?_
  refine RW_op (L_move (V := .slice a l.length c) rfl ?_)
  refine RW_op (L_move (V := .int .i64 ((i : Nat) : Int)) rfl ?_)
  refine RW_op (L_sl (l := i) (h := l.length) (m := c) (n' := (l.drop i).length) UDR_59 SA_128.1 (hs.rd 0 rfl) rfl (.inr ⟨_, _, rfl, rfl⟩) (.inl ⟨rfl, rfl⟩) (.inl ⟨rfl, rfl⟩) (by omega) (by omega) (Nat.le_trans (show l.length ≤ l.length by omega) (Rd.roomM (hs.rd 0 rfl))) (Nat.le_refl _) (by simp only [List.length_take, List.length_drop] <;> omega) ?_)
  refine RW_nil ?_
  refine W_seq ?_
  refine W_region ?_
  refine RW_op (L_move (V := .slice b 1 c2) rfl ?_)
  refine RW_op (opW_to (V := .int .i64 ((1 : Nat) : Int)) (V' := .int .i64 1) (L_lenR (n := 1) UD_59 (hvo _ _ hs) (by simp) rfl ⟨rfl, rfl⟩) rfl ?_)
  refine RW_op (L_assign (V := .int .i64 1) rfl ?_)
  refine RW_nil ?_
  refine W_seq ?_
  refine W_seq ?_
  refine W_region ?_
  refine RW_op (L_move (V := .int .i64 1) rfl ?_)
  refine RW_op (opW_to (V := .bool (decide ((1 : Int) = 0))) (V' := .bool false) (L_eql rfl rfl ⟨rfl, rfl⟩) (congrArg Value.bool (by decide)) ?_)
  refine RW_nil ?_
  refine W_condF rfl ?_
  refine W_skip ?_
  refine W_seq ?_
  refine W_region ?_
  refine RW_op (L_move (V := .slice a l.length c) rfl ?_)
  refine RW_op (L_lenR (n := l.length) UD_59 (hs.rd 0 rfl) (by simp) rfl ?_)
  refine RW_op (L_assign (V := .int .i64 ((l.length : Nat) : Int)) rfl ?_)
  refine RW_nil ?_
  refine W_seq ?_
  refine W_seq ?_
  refine W_region ?_
  refine RW_op (L_move (V := .int .i64 ((i : Nat) : Int)) rfl ?_)
  refine RW_op (L_move (V := .int .i64 ((l.length : Nat) : Int)) rfl ?_)
  refine RW_op (L_eql rfl rfl ?_)
  refine RW_nil ?_
  refine W_cond (t := decide (((i : Nat) : Int) = ((l.length : Nat) : Int))) rfl (fun c1 => ?_) (fun c1 => ?_)
  ·
    replace c1 := of_decide_eq_true c1
    refine W_seq ?_
    refine W_region ?_
    refine RW_op (L_move (V := .slice a l.length c) rfl ?_)
    refine RW_op (L_move (V := .slice b 1 c2) rfl ?_)
    refine RW_op (L_appN (ls' := (l ++ [x]).map cec) (n := (l ++ [x]).length) EL_59 hs 0 rfl rfl rfl (hvo _ _ hs) (one_map cec_one _) (by simp only [List.length_map, List.length_append, List.length_cons, List.length_nil]; omega) (by simp) (by simp) fun a2 c2 w3 hs => ?_)
    refine RW_op (L_assign (V := .slice a2 ((l ++ [x]).length) c2) rfl ?_)
    refine RW_nil ?_
    refine W_ret ?_
    refine ⟨_, res_one (V := .slice a2 ((l ++ [x]).length) c2) Try.results90 rfl, ?_⟩
    have hX : l ++ [x] = insL l i x := ins_end' (by omega)
    rw [hX] at hs
    exact ⟨(a2, c2), by rw [← hX], hs.only 0 rfl, trivial⟩
  ·
    replace c1 := of_decide_eq_false c1
    refine W_skip ?_
    refine W_seq ?_
    refine W_seq ?_
    refine W_region ?_
    refine RW_op (L_move (V := .int .i64 ((l.length : Nat) : Int)) rfl ?_)
    refine RW_op (L_move (V := .int .i64 1) rfl ?_)
    refine RW_op (L_add (a := ((l.length : Nat) : Int)) (b := 1) (c := ((l.length + 1 : Nat) : Int)) rfl rfl (nat_i64 (by omega) (by omega)) ?_)
    refine RW_op (L_move (V := .slice a l.length c) rfl ?_)
    refine RW_op (L_capS UD_59 rfl ?_)
    refine RW_op (L_gtr rfl rfl ?_)
    refine RW_nil ?_
    refine W_cond (t := decide (((c : Nat) : Int) < ((l.length + 1 : Nat) : Int))) rfl (fun c4 => ?_) (fun c4 => ?_)
    ·
      replace c4 := of_decide_eq_true c4
      refine W_seq ?_
      refine W_region ?_
      refine RW_op (L_move (V := .slice a l.length c) rfl ?_)
      refine RW_op (L_move (V := .int .i64 ((i : Nat) : Int)) rfl ?_)
      refine RW_op (L_slV (l := 0) (h := i) (n' := i) UDR_59 SA_128.1 (by omega) rfl (.inl ⟨rfl, rfl⟩) (.inr ⟨_, _, rfl, rfl⟩) (by omega) (by omega) (by omega) ?_)
      refine RW_op (L_move (V := .int .i64 ((l.length : Nat) : Int)) rfl ?_)
      refine RW_op (L_move (V := .int .i64 1) rfl ?_)
      refine RW_op (L_add (a := ((l.length : Nat) : Int)) (b := 1) (c := ((l.length + 1 : Nat) : Int)) rfl rfl (nat_i64 (by omega) (by omega)) ?_)
      refine RW_op (L_move (V := .int .i64 ((i : Nat) : Int)) rfl ?_)
      refine RW_op (L_sub (a := ((l.length + 1 : Nat) : Int)) (b := ((i : Nat) : Int)) (c := (((l.length + 1) - i : Nat) : Int)) rfl rfl (nat_i64 (by omega) (by omega)) ?_)
      refine RW_op (L_appZ (zl := cec (⟨0, 0, 0, 0, (⟨0, 0⟩ : Dot), 0⟩ : Cen)) (ls' := (l.take i ++ List.replicate ((l.length + 1) - i) (⟨0, 0, 0, 0, (⟨0, 0⟩ : Dot), 0⟩ : Cen)).map cec) EL_59 UDR_3 (.inl ZV_128) hs (hs.rd 0 rfl) rfl rfl (by rw [List.length_map]; omega) (by rw [List.length_map]; omega) (by omega) (by omega) (one_map cec_one _) (cec_one _) rfl (by omega) (by simp only [List.map_append, List.map_take, List.map_replicate]) (l.take i ++ List.replicate ((l.length + 1) - i) (⟨0, 0, 0, 0, (⟨0, 0⟩ : Dot), 0⟩ : Cen)).length (by rw [List.length_map]) fun a5 c5 w6 hs => ?_)
      refine RW_op (L_assign (V := .slice a5 ((l.take i ++ List.replicate ((l.length + 1) - i) (⟨0, 0, 0, 0, (⟨0, 0⟩ : Dot), 0⟩ : Cen)).length) c5) rfl ?_)
      refine RW_nil ?_
      refine W_seq ?_
      have hq9 : (l.take i ++ List.replicate ((l.length + 1) - i) (⟨0, 0, 0, 0, (⟨0, 0⟩ : Dot), 0⟩ : Cen)).length = l.length + 1 := by simp only [List.length_append, List.length_take, List.length_replicate]; omega
      have hr9 := (hs.rd 1 rfl).roomM
      refine W_region ?_
      refine RW_op (L_move (V := .slice a5 ((l.take i ++ List.replicate ((l.length + 1) - i) (⟨0, 0, 0, 0, (⟨0, 0⟩ : Dot), 0⟩ : Cen)).length) c5) rfl ?_)
      refine RW_op (L_move (V := .int .i64 ((i : Nat) : Int)) rfl ?_)
      refine RW_op (L_slV (l := i) (h := (l.take i ++ List.replicate ((l.length + 1) - i) (⟨0, 0, 0, 0, (⟨0, 0⟩ : Dot), 0⟩ : Cen)).length) (n' := ((l.take i ++ List.replicate ((l.length + 1) - i) (⟨0, 0, 0, 0, (⟨0, 0⟩ : Dot), 0⟩ : Cen)).length) - i) UDR_59 SA_128.1 (by omega) rfl (.inr ⟨_, _, rfl, rfl⟩) (.inl ⟨rfl, rfl⟩) (by omega) (by omega) (by omega) ?_)
      refine RW_op (L_move (V := .slice b 1 c2) rfl ?_)
      refine RW_op (L_copyTo (lo := i) (ms := [x].map cec) (ls' := ((l.take i ++ List.replicate ((l.length + 1) - i) (⟨0, 0, 0, 0, (⟨0, 0⟩ : Dot), 0⟩ : Cen)).take i ++ [x] ++ (l.take i ++ List.replicate ((l.length + 1) - i) (⟨0, 0, 0, 0, (⟨0, 0⟩ : Dot), 0⟩ : Cen)).drop (i + [x].length)).map cec) (n' := ((l.take i ++ List.replicate ((l.length + 1) - i) (⟨0, 0, 0, 0, (⟨0, 0⟩ : Dot), 0⟩ : Cen)).take i ++ [x] ++ (l.take i ++ List.replicate ((l.length + 1) - i) (⟨0, 0, 0, 0, (⟨0, 0⟩ : Dot), 0⟩ : Cen)).drop (i + [x].length)).length) EL_59 hs 1 rfl rfl rfl (by simp only [List.length_map, List.length_drop, List.length_take, List.length_cons, List.length_nil, List.length_append, List.length_replicate]; omega) (Rd.srcs (hvo _ _ hs)) (len_map (enc := cec) (fun _ => rfl) _) (one_map cec_one _) (by simp only [List.length_map, List.length_drop, List.length_take, List.length_cons, List.length_nil, List.length_append, List.length_replicate]; omega) (by simp only [List.length_map, List.length_drop, List.length_take, List.length_cons, List.length_nil, List.length_append, List.length_replicate]; omega) (by simp only [List.map_append, List.map_take, List.map_drop, List.map_cons, List.map_nil, List.length_map, List.length_drop, List.length_take, List.length_cons, List.length_nil]) (by rw [List.length_map]) fun w7 hs => ?_)
      refine RW_nil ?_
      refine W_seq ?_
      refine W_regD HM [some 46, some 47, some 48, some 49, some 50, some 51, some 52, some 53, some 54] [] [0, 0, 0, 6, 15, 0, 0, 96, 255] [pv (.slice a5 ((l.take i ++ List.replicate ((l.length + 1) - i) (⟨0, 0, 0, 0, (⟨0, 0⟩ : Dot), 0⟩ : Cen)).length) c5), pv (.int .i64 ((i : Nat) : Int)), pv (.int .i64 1), pv (.int .i64 ((i + 1 : Nat) : Int)), pv (.slice (sla a5 (i + 1) c5 7) (((l.take i ++ List.replicate ((l.length + 1) - i) (⟨0, 0, 0, 0, (⟨0, 0⟩ : Dot), 0⟩ : Cen)).length) - (i + 1)) (c5 - (i + 1))), pv (.slice a l.length c), pv (.int .i64 ((i : Nat) : Int)), pv (.slice (sla a i c 7) ((l.drop i).length) (c - i)), pv (.int .i64 (((List.map cec (l.drop i)).length : Nat) : Int))] (fun D ρ => [row (.slice a l.length c) (l.map cec) 128 7, cond (D 8) (row (.slice a5 ((((l.take i ++ List.replicate ((l.length + 1) - i) (⟨0, 0, 0, 0, (⟨0, 0⟩ : Dot), 0⟩ : Cen)).take i ++ [x] ++ (l.take i ++ List.replicate ((l.length + 1) - i) (⟨0, 0, 0, 0, (⟨0, 0⟩ : Dot), 0⟩ : Cen)).drop (i + [x].length)).take (i + 1) ++ l.drop i ++ ((l.take i ++ List.replicate ((l.length + 1) - i) (⟨0, 0, 0, 0, (⟨0, 0⟩ : Dot), 0⟩ : Cen)).take i ++ [x] ++ (l.take i ++ List.replicate ((l.length + 1) - i) (⟨0, 0, 0, 0, (⟨0, 0⟩ : Dot), 0⟩ : Cen)).drop (i + [x].length)).drop (i + 1 + (l.drop i).length)).length) c5) ((((l.take i ++ List.replicate ((l.length + 1) - i) (⟨0, 0, 0, 0, (⟨0, 0⟩ : Dot), 0⟩ : Cen)).take i ++ [x] ++ (l.take i ++ List.replicate ((l.length + 1) - i) (⟨0, 0, 0, 0, (⟨0, 0⟩ : Dot), 0⟩ : Cen)).drop (i + [x].length)).take (i + 1) ++ l.drop i ++ ((l.take i ++ List.replicate ((l.length + 1) - i) (⟨0, 0, 0, 0, (⟨0, 0⟩ : Dot), 0⟩ : Cen)).take i ++ [x] ++ (l.take i ++ List.replicate ((l.length + 1) - i) (⟨0, 0, 0, 0, (⟨0, 0⟩ : Dot), 0⟩ : Cen)).drop (i + [x].length)).drop (i + 1 + (l.drop i).length)).map cec) 128 7) (row (.slice a5 (((l.take i ++ List.replicate ((l.length + 1) - i) (⟨0, 0, 0, 0, (⟨0, 0⟩ : Dot), 0⟩ : Cen)).take i ++ [x] ++ (l.take i ++ List.replicate ((l.length + 1) - i) (⟨0, 0, 0, 0, (⟨0, 0⟩ : Dot), 0⟩ : Cen)).drop (i + [x].length)).length) c5) (((l.take i ++ List.replicate ((l.length + 1) - i) (⟨0, 0, 0, 0, (⟨0, 0⟩ : Dot), 0⟩ : Cen)).take i ++ [x] ++ (l.take i ++ List.replicate ((l.length + 1) - i) (⟨0, 0, 0, 0, (⟨0, 0⟩ : Dot), 0⟩ : Cen)).drop (i + [x].length)).map cec) 128 7)]) [] (by kernel_rfl) hs ⟨?_, ?_, ?_, ?_, ?_, ?_, ?_, ?_, ?_, trivial⟩ ?_
      · exact ob [] [] rfl rfl fun D ρ w hs => L_move (V := .slice a5 ((l.take i ++ List.replicate ((l.length + 1) - i) (⟨0, 0, 0, 0, (⟨0, 0⟩ : Dot), 0⟩ : Cen)).length) c5) rfl ⟨rfl, hs⟩
      · exact ob [] [] rfl rfl fun D ρ w hs => L_move (V := .int .i64 ((i : Nat) : Int)) rfl ⟨rfl, hs⟩
      · exact ob [] [] rfl rfl fun D ρ w hs => L_move (V := .int .i64 1) rfl ⟨rfl, hs⟩
      · exact ob [1, 2] [] rfl rfl fun D ρ w hs => L_add (a := ((i : Nat) : Int)) (b := 1) (c := ((i + 1 : Nat) : Int)) rfl rfl (nat_i64 (by omega) (by omega)) ⟨rfl, hs⟩
      · exact ob [0, 3] [] rfl rfl fun D ρ w hs => L_slV (l := i + 1) (h := (l.take i ++ List.replicate ((l.length + 1) - i) (⟨0, 0, 0, 0, (⟨0, 0⟩ : Dot), 0⟩ : Cen)).length) (n' := ((l.take i ++ List.replicate ((l.length + 1) - i) (⟨0, 0, 0, 0, (⟨0, 0⟩ : Dot), 0⟩ : Cen)).length) - (i + 1)) UDR_59 SA_128.1 (by omega) rfl (.inr ⟨_, _, rfl, rfl⟩) (.inl ⟨rfl, rfl⟩) (by omega) (by omega) (by omega) ⟨rfl, hs⟩
      · exact ob [] [] rfl rfl fun D ρ w hs => L_move (V := .slice a l.length c) rfl ⟨rfl, hs⟩
      · exact ob [] [] rfl rfl fun D ρ w hs => L_move (V := .int .i64 ((i : Nat) : Int)) rfl ⟨rfl, hs⟩
      · exact ob [5, 6] [] rfl rfl fun D ρ w hs => L_sl (l := i) (h := l.length) (m := c) (n' := (l.drop i).length) UDR_59 SA_128.1 (hs.rd 0 rfl) rfl (.inr ⟨_, _, rfl, rfl⟩) (.inl ⟨rfl, rfl⟩) (.inl ⟨rfl, rfl⟩) (by omega) (by omega) (Nat.le_trans (show l.length ≤ l.length by omega) (Rd.roomM (hs.rd 0 rfl))) (Nat.le_refl _) (by simp only [List.length_take, List.length_drop] <;> omega) ⟨rfl, hs⟩
      · exact ob [4, 7] [] rfl rfl fun D ρ w hs => L_copyTo (lo := i + 1) (ms := (l.drop i).map cec) (ls' := (((l.take i ++ List.replicate ((l.length + 1) - i) (⟨0, 0, 0, 0, (⟨0, 0⟩ : Dot), 0⟩ : Cen)).take i ++ [x] ++ (l.take i ++ List.replicate ((l.length + 1) - i) (⟨0, 0, 0, 0, (⟨0, 0⟩ : Dot), 0⟩ : Cen)).drop (i + [x].length)).take (i + 1) ++ l.drop i ++ ((l.take i ++ List.replicate ((l.length + 1) - i) (⟨0, 0, 0, 0, (⟨0, 0⟩ : Dot), 0⟩ : Cen)).take i ++ [x] ++ (l.take i ++ List.replicate ((l.length + 1) - i) (⟨0, 0, 0, 0, (⟨0, 0⟩ : Dot), 0⟩ : Cen)).drop (i + [x].length)).drop (i + 1 + (l.drop i).length)).map cec) (n' := (((l.take i ++ List.replicate ((l.length + 1) - i) (⟨0, 0, 0, 0, (⟨0, 0⟩ : Dot), 0⟩ : Cen)).take i ++ [x] ++ (l.take i ++ List.replicate ((l.length + 1) - i) (⟨0, 0, 0, 0, (⟨0, 0⟩ : Dot), 0⟩ : Cen)).drop (i + [x].length)).take (i + 1) ++ l.drop i ++ ((l.take i ++ List.replicate ((l.length + 1) - i) (⟨0, 0, 0, 0, (⟨0, 0⟩ : Dot), 0⟩ : Cen)).take i ++ [x] ++ (l.take i ++ List.replicate ((l.length + 1) - i) (⟨0, 0, 0, 0, (⟨0, 0⟩ : Dot), 0⟩ : Cen)).drop (i + [x].length)).drop (i + 1 + (l.drop i).length)).length) EL_59 hs 1 rfl rfl rfl (by simp only [List.length_map, List.length_drop, List.length_take, List.length_cons, List.length_nil, List.length_append, List.length_replicate]; omega) (Rd.srcs (Rd.dropM (hs.rd 0 rfl) i hi _ rfl)) (len_map (enc := cec) (fun _ => rfl) _) (one_map cec_one _) (by simp only [List.length_map, List.length_drop, List.length_take, List.length_cons, List.length_nil, List.length_append, List.length_replicate]; omega) (by simp only [List.length_map, List.length_drop, List.length_take, List.length_cons, List.length_nil, List.length_append, List.length_replicate]; omega) (by simp only [List.map_append, List.map_take, List.map_drop, List.map_cons, List.map_nil, List.length_map, List.length_drop, List.length_take, List.length_cons, List.length_nil]) (by rw [List.length_map]) fun _ hs => ⟨rfl, hs⟩
      rintro ρ1 w9 ρ2 hρ hs
      replace hρ : ρ2 = mix [46, 47, 48, 49, 50, 51, 52, 53, 54] ρ1 _ := hρ
      replace hs : Own w S w9 [row (.slice a l.length c) (l.map cec) 128 7, row (.slice a5 ((((l.take i ++ List.replicate ((l.length + 1) - i) (⟨0, 0, 0, 0, (⟨0, 0⟩ : Dot), 0⟩ : Cen)).take i ++ [x] ++ (l.take i ++ List.replicate ((l.length + 1) - i) (⟨0, 0, 0, 0, (⟨0, 0⟩ : Dot), 0⟩ : Cen)).drop (i + [x].length)).take (i + 1) ++ l.drop i ++ ((l.take i ++ List.replicate ((l.length + 1) - i) (⟨0, 0, 0, 0, (⟨0, 0⟩ : Dot), 0⟩ : Cen)).take i ++ [x] ++ (l.take i ++ List.replicate ((l.length + 1) - i) (⟨0, 0, 0, 0, (⟨0, 0⟩ : Dot), 0⟩ : Cen)).drop (i + [x].length)).drop (i + 1 + (l.drop i).length)).length) c5) ((((l.take i ++ List.replicate ((l.length + 1) - i) (⟨0, 0, 0, 0, (⟨0, 0⟩ : Dot), 0⟩ : Cen)).take i ++ [x] ++ (l.take i ++ List.replicate ((l.length + 1) - i) (⟨0, 0, 0, 0, (⟨0, 0⟩ : Dot), 0⟩ : Cen)).drop (i + [x].length)).take (i + 1) ++ l.drop i ++ ((l.take i ++ List.replicate ((l.length + 1) - i) (⟨0, 0, 0, 0, (⟨0, 0⟩ : Dot), 0⟩ : Cen)).take i ++ [x] ++ (l.take i ++ List.replicate ((l.length + 1) - i) (⟨0, 0, 0, 0, (⟨0, 0⟩ : Dot), 0⟩ : Cen)).drop (i + [x].length)).drop (i + 1 + (l.drop i).length)).map cec) 128 7] := hs
      subst hρ
      refine W_seq ?_
      refine W_region ?_
      refine RW_op (L_move (V := .slice a5 ((l.take i ++ List.replicate ((l.length + 1) - i) (⟨0, 0, 0, 0, (⟨0, 0⟩ : Dot), 0⟩ : Cen)).length) c5) rfl ?_)
      refine RW_op (L_assign (V := .slice a5 ((l.take i ++ List.replicate ((l.length + 1) - i) (⟨0, 0, 0, 0, (⟨0, 0⟩ : Dot), 0⟩ : Cen)).length) c5) rfl ?_)
      refine RW_nil ?_
      refine W_ret ?_
      refine ⟨_, res_one (V := .slice a5 ((l.take i ++ List.replicate ((l.length + 1) - i) (⟨0, 0, 0, 0, (⟨0, 0⟩ : Dot), 0⟩ : Cen)).length) c5) Try.results90 rfl, ?_⟩
      have hX : ((l.take i ++ List.replicate ((l.length + 1) - i) (⟨0, 0, 0, 0, (⟨0, 0⟩ : Dot), 0⟩ : Cen)).take i ++ [x] ++ (l.take i ++ List.replicate ((l.length + 1) - i) (⟨0, 0, 0, 0, (⟨0, 0⟩ : Dot), 0⟩ : Cen)).drop (i + [x].length)).take (i + 1) ++ l.drop i ++ ((l.take i ++ List.replicate ((l.length + 1) - i) (⟨0, 0, 0, 0, (⟨0, 0⟩ : Dot), 0⟩ : Cen)).take i ++ [x] ++ (l.take i ++ List.replicate ((l.length + 1) - i) (⟨0, 0, 0, 0, (⟨0, 0⟩ : Dot), 0⟩ : Cen)).drop (i + [x].length)).drop (i + 1 + (l.drop i).length) = insL l i x := ins_grow hi
      rw [hX] at hs
      exact ⟨(a5, c5), by rw [hq9, insL_len hi], hs.only 1 rfl, trivial⟩
    ·
      replace c4 := of_decide_eq_false c4
      refine W_skip ?_
      refine W_seq ?_
      refine W_region ?_
      refine RW_op (L_move (V := .slice a l.length c) rfl ?_)
      refine RW_op (L_move (V := .int .i64 ((l.length : Nat) : Int)) rfl ?_)
      refine RW_op (L_move (V := .int .i64 1) rfl ?_)
      refine RW_op (L_add (a := ((l.length : Nat) : Int)) (b := 1) (c := ((l.length + 1 : Nat) : Int)) rfl rfl (nat_i64 (by omega) (by omega)) ?_)
      refine RW_op (opW_to (V := .slice (sla a 0 c 7) (l.length + 1) (c - 0)) (V' := .slice a (l.length + 1) c) (L_slV (l := 0) (h := l.length + 1) (n' := l.length + 1) UDR_59 SA_128.1 (by omega) rfl (.inl ⟨rfl, rfl⟩) (.inr ⟨_, _, rfl, rfl⟩) (by omega) (by omega) (by omega) ⟨rfl, rfl⟩) (by rw [sla_zero]; rfl) ?_)
      refine RW_op (L_assign (V := .slice a (l.length + 1) c) rfl ?_)
      refine RW_nil ?_
      refine W_seq ?_
      refine W_seq ?_
      refine W_region ?_
      refine RW_op (L_move (V := .slice b 1 c2) rfl ?_)
      refine RW_op (L_move (V := .slice a (l.length + 1) c) rfl ?_)
      refine RW_op (L_move (V := .int .i64 ((i : Nat) : Int)) rfl ?_)
      refine RW_op (L_move (V := .int .i64 1) rfl ?_)
      refine RW_op (L_add (a := ((i : Nat) : Int)) (b := 1) (c := ((i + 1 : Nat) : Int)) rfl rfl (nat_i64 (by omega) (by omega)) ?_)
      refine RW_op (L_slV (l := i + 1) (h := l.length + 1) (n' := (l.length + 1) - (i + 1)) UDR_59 SA_128.1 (by omega) rfl (.inr ⟨_, _, rfl, rfl⟩) (.inl ⟨rfl, rfl⟩) (by omega) (by omega) (by omega) ?_)
      refine RW_op (L_overA (f := 120) (tR := 4) (lo := i + 1) Try.func120 (by kernel_rfl) (by kernel_rfl) (by kernel_rfl) (by kernel_rfl) UDR_59 SA_128.1 rfl hs 0 rfl (by rw [List.length_map]; omega) (by decide) rfl (hpl.own hs hnS) hnS hvb (by omega) rfl ?_)
      refine RW_op (L_not rfl ?_)
      refine RW_nil ?_
      refine W_condT rfl ?_
      refine W_seq ?_
      refine W_regD HM [some 69, some 70, some 71, some 72, some 73, some 74, some 75, some 76, some 77] [] [0, 0, 0, 6, 15, 0, 0, 96, 255] [pv (.slice a (l.length + 1) c), pv (.int .i64 ((i : Nat) : Int)), pv (.int .i64 1), pv (.int .i64 ((i + 1 : Nat) : Int)), pv (.slice (sla a (i + 1) c 7) ((l.length + 1) - (i + 1)) (c - (i + 1))), pv (.slice a (l.length + 1) c), pv (.int .i64 ((i : Nat) : Int)), pv (.slice (sla a i c 7) ((l.length + 1) - i) (c - i)), pv (.int .i64 (((List.map cec (l.drop i)).length : Nat) : Int))] (fun D ρ => [cond (D 8) (row (.slice a ((l.take (i + 1) ++ l.drop i ++ l.drop (i + 1 + (l.drop i).length)).length) c) ((l.take (i + 1) ++ l.drop i ++ l.drop (i + 1 + (l.drop i).length)).map cec) 128 7) (row (.slice a l.length c) (l.map cec) 128 7)]) [] (by kernel_rfl) hs ⟨?_, ?_, ?_, ?_, ?_, ?_, ?_, ?_, ?_, trivial⟩ ?_
      · exact ob [] [] rfl rfl fun D ρ w hs => L_move (V := .slice a (l.length + 1) c) rfl ⟨rfl, hs⟩
      · exact ob [] [] rfl rfl fun D ρ w hs => L_move (V := .int .i64 ((i : Nat) : Int)) rfl ⟨rfl, hs⟩
      · exact ob [] [] rfl rfl fun D ρ w hs => L_move (V := .int .i64 1) rfl ⟨rfl, hs⟩
      · exact ob [1, 2] [] rfl rfl fun D ρ w hs => L_add (a := ((i : Nat) : Int)) (b := 1) (c := ((i + 1 : Nat) : Int)) rfl rfl (nat_i64 (by omega) (by omega)) ⟨rfl, hs⟩
      · exact ob [0, 3] [] rfl rfl fun D ρ w hs => L_slV (l := i + 1) (h := l.length + 1) (n' := (l.length + 1) - (i + 1)) UDR_59 SA_128.1 (by omega) rfl (.inr ⟨_, _, rfl, rfl⟩) (.inl ⟨rfl, rfl⟩) (by omega) (by omega) (by omega) ⟨rfl, hs⟩
      · exact ob [] [] rfl rfl fun D ρ w hs => L_move (V := .slice a (l.length + 1) c) rfl ⟨rfl, hs⟩
      · exact ob [] [] rfl rfl fun D ρ w hs => L_move (V := .int .i64 ((i : Nat) : Int)) rfl ⟨rfl, hs⟩
      · exact ob [5, 6] [] rfl rfl fun D ρ w hs => L_slV (l := i) (h := l.length + 1) (n' := (l.length + 1) - i) UDR_59 SA_128.1 (by omega) rfl (.inr ⟨_, _, rfl, rfl⟩) (.inl ⟨rfl, rfl⟩) (by omega) (by omega) (by omega) ⟨rfl, hs⟩
      · exact ob [4, 7] [] rfl rfl fun D ρ w hs => L_copyTo (lo := i + 1) (ms := (l.drop i).map cec) (ls' := (l.take (i + 1) ++ l.drop i ++ l.drop (i + 1 + (l.drop i).length)).map cec) (n' := (l.take (i + 1) ++ l.drop i ++ l.drop (i + 1 + (l.drop i).length)).length) EL_59 hs 0 rfl rfl rfl (by simp only [List.length_map, List.length_drop, List.length_take, List.length_cons, List.length_nil, List.length_append, List.length_replicate]; omega) (Rd.srcs (Rd.dropM (hs.rd 0 rfl) i hi _ rfl)) (len_map (enc := cec) (fun _ => rfl) _) (one_map cec_one _) (by simp only [List.length_map, List.length_drop, List.length_take, List.length_cons, List.length_nil, List.length_append, List.length_replicate]; omega) (by simp only [List.length_map, List.length_drop, List.length_take, List.length_cons, List.length_nil, List.length_append, List.length_replicate]; omega) (by simp only [List.map_append, List.map_take, List.map_drop, List.map_cons, List.map_nil, List.length_map, List.length_drop, List.length_take, List.length_cons, List.length_nil]) (by rw [List.length_map]) fun _ hs => ⟨rfl, hs⟩
      rintro ρ1 w11 ρ2 hρ hs
      replace hρ : ρ2 = mix [69, 70, 71, 72, 73, 74, 75, 76, 77] ρ1 _ := hρ
      replace hs : Own w S w11 [row (.slice a ((l.take (i + 1) ++ l.drop i ++ l.drop (i + 1 + (l.drop i).length)).length) c) ((l.take (i + 1) ++ l.drop i ++ l.drop (i + 1 + (l.drop i).length)).map cec) 128 7] := hs
      subst hρ
      refine W_seq ?_
      refine W_region ?_
      refine RW_op (L_move (V := .slice a (l.length + 1) c) rfl ?_)
      refine RW_op (L_move (V := .int .i64 ((i : Nat) : Int)) rfl ?_)
      refine RW_op (L_slV (l := i) (h := l.length + 1) (n' := (l.length + 1) - i) UDR_59 SA_128.1 (by omega) rfl (.inr ⟨_, _, rfl, rfl⟩) (.inl ⟨rfl, rfl⟩) (by omega) (by omega) (by omega) ?_)
      refine RW_op (L_move (V := .slice b 1 c2) rfl ?_)
      refine RW_op (L_copyTo (lo := i) (ms := [x].map cec) (ls' := ((l.take (i + 1) ++ l.drop i ++ l.drop (i + 1 + (l.drop i).length)).take i ++ [x] ++ (l.take (i + 1) ++ l.drop i ++ l.drop (i + 1 + (l.drop i).length)).drop (i + [x].length)).map cec) (n' := ((l.take (i + 1) ++ l.drop i ++ l.drop (i + 1 + (l.drop i).length)).take i ++ [x] ++ (l.take (i + 1) ++ l.drop i ++ l.drop (i + 1 + (l.drop i).length)).drop (i + [x].length)).length) EL_59 hs 0 rfl rfl rfl (by simp only [List.length_map, List.length_drop, List.length_take, List.length_cons, List.length_nil, List.length_append, List.length_replicate]; omega) (Rd.srcs (hvo _ _ hs)) (len_map (enc := cec) (fun _ => rfl) _) (one_map cec_one _) (by simp only [List.length_map, List.length_drop, List.length_take, List.length_cons, List.length_nil, List.length_append, List.length_replicate]; omega) (by simp only [List.length_map, List.length_drop, List.length_take, List.length_cons, List.length_nil, List.length_append, List.length_replicate]; omega) (by simp only [List.map_append, List.map_take, List.map_drop, List.map_cons, List.map_nil, List.length_map, List.length_drop, List.length_take, List.length_cons, List.length_nil]) (by rw [List.length_map]) fun w12 hs => ?_)
      refine RW_nil ?_
      refine W_seq ?_
      refine W_region ?_
      refine RW_op (L_move (V := .slice a (l.length + 1) c) rfl ?_)
      refine RW_op (L_assign (V := .slice a (l.length + 1) c) rfl ?_)
      refine RW_nil ?_
      refine W_ret ?_
      refine ⟨_, res_one (V := .slice a (l.length + 1) c) Try.results90 rfl, ?_⟩
      have hX : (l.take (i + 1) ++ l.drop i ++ l.drop (i + 1 + (l.drop i).length)).take i ++ [x] ++ (l.take (i + 1) ++ l.drop i ++ l.drop (i + 1 + (l.drop i).length)).drop (i + [x].length) = insL l i x := ins_room (by omega)
      rw [hX] at hs
      exact ⟨(a, c), by rw [insL_len hi], hs.only 0 rfl, trivial⟩
end Tt
end Go.Proofs
namespace Go.Proofs
open Go Go.Vx Go.RowKit
namespace Tt
set_option maxRecDepth 20000 in
set_option maxHeartbeats 4000000 in
theorem cApply_ok (w : World) (s : Sta) (a1 : Option Addr) (c1 : Nat) (a2 : Option Addr) (c2 : Nat) (o : Opn) (hO : OpnOk o) (hok : StaOk s) (hle : s.ents.length ≤ 1000) (hlt : s.ticks.length ≤ 1000) (hr1 : Rd w (.slice a1 s.ents.length c1) 7 (s.ents.map cec)) (hr2 : Rd w (.slice a2 s.ticks.length c2) 2 (s.ticks.map lsc)) : Calls Try.prog 45 #[.agg ((vc s.known) ++ [(.slice a1 s.ents.length c1 : Value), (.slice a2 s.ticks.length c2 : Value) ]).toArray, .agg (oc o).toArray] w (fun e w' => ∃ x : (Option Addr × Nat) × (Option Addr × Nat), e = .returned (.tuple #[.agg (vc (applyR s o).known ++ [(.slice x.1.1 (applyR s o).ents.length x.1.2 : Value), (.slice x.2.1 (applyR s o).ticks.length x.2.2 : Value)]).toArray, .int .i64 (applyI s o)]) ∧ Own w no w' [row (.slice x.1.1 (applyR s o).ents.length x.1.2) ((applyR s o).ents.map cec) 128 7, row (.slice x.2.1 (applyR s o).ticks.length x.2.2) ((applyR s o).ticks.map lsc) 126 2] ∧ True) := by
  refine calls_of_Wn (n := 85) Try.func45 rfl Try.ntmps45 rfl ?_
  have hs := Own.start w
  have ⟨hdo, _, _, _, _, _, hctx⟩ := hO
  have ⟨hv0, hE0, hT0⟩ := hok
  refine W_seq ?_
  refine W_region ?_
  refine RW_op (L_box (V := .agg ((vc s.known) ++ [(.slice a1 s.ents.length c1 : Value), (.slice a2 s.ticks.length c2 : Value) ]).toArray) (cs := (vc s.known) ++ [(.slice a1 s.ents.length c1 : Value), (.slice a2 s.ticks.length c2 : Value) ]) rfl rfl hs fun b1 w2 hs => ?_)
  refine RW_op (L_box (V := .agg (oc o).toArray) (cs := oc o) rfl rfl hs fun b3 w4 hs => ?_)
  refine RW_op (L_alloc (cs := (vc vzero) ++ [(.slice none 0 0 : Value), (.slice none 0 0 : Value) ]) ZV_62 rfl hs fun b5 w6 hs => ?_)
  refine RW_op (L_assign (V := .int .i64 0) rfl ?_)
  refine RW_nil ?_
  refine W_seq ?_
  refine W_seq ?_
  refine W_region ?_
  refine RW_op (L_ldW (cs := (vc s.known) ++ [(.slice a1 s.ents.length c1 : Value), (.slice a2 s.ticks.length c2 : Value) ]) SA_62 hs 0 rfl rfl rfl ?_)
  refine RW_op (L_callP (vs := [.agg ((vc s.known) ++ [(.slice a1 s.ents.length c1 : Value), (.slice a2 s.ticks.length c2 : Value) ]).toArray]) (V := .bool (rightS s)) EN_58 rfl rfl ?hc hs fun w7 hs => ?_)
  case hc => exact (cRight_ok _ s a1 c1 a2 c2 hok (by omega) (by omega) (Rd.own' hr1 hs) (Rd.own' hr2 hs))
  refine RW_op (L_not rfl ?_)
  refine RW_nil ?_
  refine W_cond (t := !(rightS s)) rfl (fun c8 => ?_) (fun c8 => ?_)
  ·
    replace c8 := not_t c8
    refine W_seq ?_
    refine W_region ?_
    refine RW_op (L_buildP (vs := []) (cs := (vc vzero) ++ [(.slice none 0 0 : Value), (.slice none 0 0 : Value) ]) [vc vzero, [(.slice none 0 0 : Value)], [(.slice none 0 0 : Value)]] [vc vzero, [(.slice none 0 0 : Value)], [(.slice none 0 0 : Value)]] BT_62 rfl (rfl) rfl rfl ?_)
    refine RW_op (L_st (V := .agg ((vc vzero) ++ [(.slice none 0 0 : Value), (.slice none 0 0 : Value) ]).toArray) (vs := (vc vzero) ++ [(.slice none 0 0 : Value), (.slice none 0 0 : Value) ]) (cs' := (vc vzero) ++ [(.slice none 0 0 : Value), (.slice none 0 0 : Value) ]) SA_62.1 hs 2 rfl rfl rfl rfl rfl (Nat.le_of_ble_eq_true rfl) (one_app (vc_one _) (one_cons rfl (one_cons rfl one_nil))) (spl_whole rfl) fun w9 hs => ?_)
    replace hs : Own w no w9 [blk b1 ((vc s.known) ++ [(.slice a1 s.ents.length c1 : Value), (.slice a2 s.ticks.length c2 : Value) ]) 62, blk b3 (oc o) 98, blk b5 ((vc vzero) ++ [(.slice none 0 0 : Value), (.slice none 0 0 : Value) ]) 62] := hs
    refine RW_op (L_assign (V := .int .i64 2) rfl ?_)
    refine RW_nil ?_
    refine W_ret ?_
    refine ⟨_, res_cell2 (cs := (vc vzero) ++ [(.slice none 0 0 : Value), (.slice none 0 0 : Value) ]) (V := .int .i64 2) Try.results45 SA_62 hs 2 rfl rfl rfl rfl, ?_⟩
    have hI : applyI s o = 2 := by unfold applyI; rw [if_neg (by rw [c8]; decide)]
    have hR : applyR s o = szero := by unfold applyR; rw [if_neg (by rw [hI]; decide)]
    rw [hI, hR]
    exact ⟨((none, 0), (none, 0)), rfl, ((hs.take 0).more _ (row_nil _ _ 128 7)).more _ (row_nil _ _ 126 2), trivial⟩
  ·
    replace c8 := not_f c8
    refine W_skip ?_
    refine W_seq ?_
    refine W_seq ?_
    refine W_region ?_
    refine RW_op (L_fieldAddr FA_62_0 rfl ?_)
    refine RW_op (L_ldA (vs := vc s.known) SA_53 hs 0 rfl rfl rfl rfl ?_)
    refine RW_op (L_ldW (cs := oc o) SA_98 hs 1 rfl rfl rfl ?_)
    refine RW_op (L_callP (vs := [.agg (vc s.known).toArray, .agg (oc o).toArray]) (V := .int .i64 (readyI s.known o)) EN_82 rfl rfl ?hc hs fun w10 hs => ?_)
    case hc => exact (oReady_ok _ s.known o (by assumption))
    refine RW_op (L_assign (V := .int .i64 (readyI s.known o)) rfl ?_)
    refine RW_nil ?_
    refine W_seq ?_
    refine W_region ?_
    refine RW_op (L_move (V := .int .i64 (readyI s.known o)) rfl ?_)
    refine RW_op (L_neq rfl rfl ?_)
    refine RW_nil ?_
    refine W_cond (t := !decide (readyI s.known o = 0)) rfl (fun c11 => ?_) (fun c11 => ?_)
    ·
      replace c11 := not_t c11
      replace c11 := of_decide_eq_false c11
      refine W_seq ?_
      refine W_region ?_
      refine RW_op (L_buildP (vs := []) (cs := (vc vzero) ++ [(.slice none 0 0 : Value), (.slice none 0 0 : Value) ]) [vc vzero, [(.slice none 0 0 : Value)], [(.slice none 0 0 : Value)]] [vc vzero, [(.slice none 0 0 : Value)], [(.slice none 0 0 : Value)]] BT_62 rfl (rfl) rfl rfl ?_)
      refine RW_op (L_move (V := .int .i64 (readyI s.known o)) rfl ?_)
      refine RW_op (L_st (V := .agg ((vc vzero) ++ [(.slice none 0 0 : Value), (.slice none 0 0 : Value) ]).toArray) (vs := (vc vzero) ++ [(.slice none 0 0 : Value), (.slice none 0 0 : Value) ]) (cs' := (vc vzero) ++ [(.slice none 0 0 : Value), (.slice none 0 0 : Value) ]) SA_62.1 hs 2 rfl rfl rfl rfl rfl (Nat.le_of_ble_eq_true rfl) (one_app (vc_one _) (one_cons rfl (one_cons rfl one_nil))) (spl_whole rfl) fun w12 hs => ?_)
      replace hs : Own w no w12 [blk b1 ((vc s.known) ++ [(.slice a1 s.ents.length c1 : Value), (.slice a2 s.ticks.length c2 : Value) ]) 62, blk b3 (oc o) 98, blk b5 ((vc vzero) ++ [(.slice none 0 0 : Value), (.slice none 0 0 : Value) ]) 62] := hs
      refine RW_op (L_assign (V := .int .i64 (readyI s.known o)) rfl ?_)
      refine RW_nil ?_
      refine W_ret ?_
      refine ⟨_, res_cell2 (cs := (vc vzero) ++ [(.slice none 0 0 : Value), (.slice none 0 0 : Value) ]) (V := .int .i64 (readyI s.known o)) Try.results45 SA_62 hs 2 rfl rfl rfl rfl, ?_⟩
      have hI : applyI s o = readyI s.known o := by unfold applyI; rw [if_pos c8]
      have hR : applyR s o = szero := by unfold applyR; rw [if_neg (by rw [hI]; exact c11)]
      rw [hI, hR]
      exact ⟨((none, 0), (none, 0)), rfl, ((hs.take 0).more _ (row_nil _ _ 128 7)).more _ (row_nil _ _ 126 2), trivial⟩
    ·
      replace c11 := not_f c11
      replace c11 := of_decide_eq_true c11
      refine W_skip ?_
      refine W_seq ?_
      refine W_region ?_
      refine RW_op (L_ldW (cs := (vc s.known) ++ [(.slice a1 s.ents.length c1 : Value), (.slice a2 s.ticks.length c2 : Value) ]) SA_62 hs 0 rfl rfl rfl ?_)
      refine RW_op (L_callX (α := (Option Addr × Nat) × (Option Addr × Nat)) (vs := [.agg ((vc s.known) ++ [(.slice a1 s.ents.length c1 : Value), (.slice a2 s.ticks.length c2 : Value) ]).toArray]) EN_83 rfl rfl (sOwn_ok _ s a1 c1 a2 c2 hok (by omega) (by omega) (Rd.own' hr1 hs) (Rd.own' hr2 hs)) hs fun x13 w14 hs _ => ?_)
      replace hs : Own w no w14 [blk b1 ((vc s.known) ++ [(.slice a1 s.ents.length c1 : Value), (.slice a2 s.ticks.length c2 : Value) ]) 62, blk b3 (oc o) 98, blk b5 ((vc vzero) ++ [(.slice none 0 0 : Value), (.slice none 0 0 : Value) ]) 62, row (.slice x13.1.1 s.ents.length x13.1.2) (s.ents.map cec) 128 7, row (.slice x13.2.1 s.ticks.length x13.2.2) (s.ticks.map lsc) 126 2] := hs
      refine RW_op (L_alloc (cs := (vc vzero) ++ [(.slice none 0 0 : Value), (.slice none 0 0 : Value) ]) ZV_62 rfl hs fun b15 w16 hs => ?_)
      refine RW_op (L_st (V := .agg ((vc s.known) ++ [(.slice x13.1.1 s.ents.length x13.1.2 : Value), (.slice x13.2.1 s.ticks.length x13.2.2 : Value) ]).toArray) (vs := (vc s.known) ++ [(.slice x13.1.1 s.ents.length x13.1.2 : Value), (.slice x13.2.1 s.ticks.length x13.2.2 : Value) ]) (cs' := (vc s.known) ++ [(.slice x13.1.1 s.ents.length x13.1.2 : Value), (.slice x13.2.1 s.ticks.length x13.2.2 : Value) ]) SA_62.1 hs 5 rfl rfl rfl rfl rfl (Nat.le_of_ble_eq_true rfl) (one_app (vc_one _) (one_cons rfl (one_cons rfl one_nil))) (spl_whole rfl) fun w17 hs => ?_)
      refine RW_nil ?_
      refine W_seq ?_
      have hrc := rightS_iff.1 c8
      have hrd := readyI_dot hO c11
      have ⟨hd0, hd1, hd2, hd3⟩ := hrd.1
      have hfd := fresh_dot hrc hrd.2
      refine W_region ?_
      refine RW_op (L_fieldAddr FA_98_0 rfl ?_)
      refine RW_op (L_fieldAddr FA_96_0 rfl ?_)
      refine RW_op (L_ld (V := .int .u8 o.dot.rep) S1_5 hs 1 rfl rfl rfl ?_)
      refine RW_op (L_fieldAddr FA_98_0 rfl ?_)
      refine RW_op (L_fieldAddr FA_96_1 rfl ?_)
      refine RW_op (L_ld (V := .int .u32 o.dot.seq) S1_51 hs 1 rfl rfl rfl ?_)
      refine RW_op (L_fieldAddr FA_62_0 rfl ?_)
      refine RW_op (L_ixArr1 UD_53 S1_51.1 rfl rfl (by omega) (by omega) ?_)
      refine RW_op (L_st1 (V := .int .u32 o.dot.seq) (cs' := (vc (vset s.known o.dot.rep.toNat o.dot.seq)) ++ [(.slice x13.1.1 s.ents.length x13.1.2 : Value), (.slice x13.2.1 s.ticks.length x13.2.2 : Value) ]) S1_51 hs 5 rfl rfl rfl rfl (vc_ltA (by omega)) (vc_setA (by omega) (by omega)) fun w18 hs => ?_)
      refine RW_nil ?_
      refine W_seq ?_
      refine W_region ?_
      refine RW_op (L_fieldAddr FA_62_1 rfl ?_)
      refine RW_op (L_ld (V := .slice x13.1.1 s.ents.length x13.1.2) S1_59 hs 5 rfl rfl rfl ?_)
      refine RW_op (L_makeFunc (cs := [.pointer (some ⟨b3, 0, none⟩)]) rfl rfl ?_)
      refine RW_op (L_callE (α := Unit) (vs := [.slice x13.1.1 s.ents.length x13.1.2, .func (.func 85) #[] #[.pointer (some ⟨b3, 0, none⟩)]]) (V := fun _ => .slice x13.1.1 (s.ents.filter fun x => !(fun x => endsB o (laidO x)) x).length x13.1.2) (R := row (.slice x13.1.1 s.ents.length x13.1.2) (s.ents.map cec) 128 7) (R' := fun _ => row (.slice x13.1.1 (s.ents.filter fun x => !(fun x => endsB o (laidO x)) x).length x13.1.2) ((s.ents.filter fun x => !(fun x => endsB o (laidO x)) x).map cec) 128 7) (Lo := fun _ => []) (F := fun _ _ => True) EN_84 rfl rfl hs 3 1 (by decide) rfl rfl (fun S hS hlS hSb hc => dlf128_ok _ S x13.1.1 x13.1.2 s.ents 85 [.pointer (some ⟨b3, 0, none⟩)] EN_85 (fun x => endsB o (laidO x)) (fun w1 L1 h x hx => apply1_ok w1 x o b3 (hE0 x hx).2.2.2.2.1 (hc.own h hSb)) hS hlS) fun _ w19 hs _ => ?_)
      replace hs : Own w no w19 [blk b1 ((vc s.known) ++ [(.slice a1 s.ents.length c1 : Value), (.slice a2 s.ticks.length c2 : Value) ]) 62, blk b3 (oc o) 98, blk b5 ((vc vzero) ++ [(.slice none 0 0 : Value), (.slice none 0 0 : Value) ]) 62, row (.slice x13.1.1 ((s.ents.filter fun x => !(fun x => endsB o (laidO x)) x).length) x13.1.2) ((s.ents.filter fun x => !(fun x => endsB o (laidO x)) x).map cec) 128 7, row (.slice x13.2.1 s.ticks.length x13.2.2) (s.ticks.map lsc) 126 2, blk b15 ((vc (vset s.known o.dot.rep.toNat o.dot.seq)) ++ [(.slice x13.1.1 s.ents.length x13.1.2 : Value), (.slice x13.2.1 s.ticks.length x13.2.2 : Value) ]) 62] := hs
      refine RW_op (L_fieldAddr FA_62_1 rfl ?_)
      refine RW_op (L_st1 (V := .slice x13.1.1 ((s.ents.filter fun x => !(fun x => endsB o (laidO x)) x).length) x13.1.2) (cs' := (vc (vset s.known o.dot.rep.toNat o.dot.seq)) ++ [(.slice x13.1.1 ((s.ents.filter fun x => !(fun x => endsB o (laidO x)) x).length) x13.1.2 : Value), (.slice x13.2.1 s.ticks.length x13.2.2 : Value) ]) S1_59 hs 5 rfl rfl rfl rfl (Nat.le_of_ble_eq_true rfl) rfl fun w20 hs => ?_)
      refine RW_nil ?_
      refine W_seq ?_
      refine W_seq ?_
      refine W_regO [some 38, some 39, some 40, some 41, some 42, some 43, some 44, some 45, some 46, some 47, some 48, some 49, some 50] [] [0, 1, 3, 7, 15, 31, 63, 127, 255, 511, 1023, 2047, 4095] [pv (.pointer (some ⟨b3, 0 + 2, none⟩)), pv (.int .u8 o.kind), pv (.bool (decide (o.kind = 1))), pv (.bool (decide (o.kind = 1))), pg ((decide (o.kind = 1)) == false) (.pointer (some ⟨b3, 0 + 2, none⟩)), pg ((decide (o.kind = 1)) == false) (.int .u8 o.kind), pg ((decide (o.kind = 1)) == false) (.bool (decide (o.kind = 2))), pv (.bool ((decide (o.kind = 1)) || (decide (o.kind = 2)))), pv (.bool ((decide (o.kind = 1)) || (decide (o.kind = 2)))), pg (((decide (o.kind = 1)) || (decide (o.kind = 2))) == false) (.pointer (some ⟨b3, 0 + 2, none⟩)), pg (((decide (o.kind = 1)) || (decide (o.kind = 2))) == false) (.int .u8 o.kind), pg (((decide (o.kind = 1)) || (decide (o.kind = 2))) == false) (.bool (decide (o.kind = 4))), pv (.bool (laysB o))] (fun _ _ => _) [12] (by kernel_rfl) hs ⟨?_, ?_, ?_, ?_, ?_, ?_, ?_, ?_, ?_, ?_, ?_, ?_, ?_, trivial⟩ ?_
      · exact ob [] [] rfl rfl fun D ρ w hs => L_fieldAddr FA_98_1 rfl ⟨rfl, hs⟩
      · exact ob [0] [] rfl rfl fun D ρ w hs => L_ld (V := .int .u8 o.kind) S1_5 hs 1 rfl rfl rfl ⟨rfl, hs⟩
      · exact ob [1] [] rfl rfl fun D ρ w hs => L_eql rfl rfl ⟨rfl, hs⟩
      · exact ob [2] [] rfl rfl fun D ρ w hs => L_move (V := .bool (decide (o.kind = 1))) rfl ⟨rfl, hs⟩
      · exact obg [3] [] (decide (o.kind = 1)) rfl (fun _ => rfl) rfl (fun _ _ _ _ h => h) fun D ρ w hG hs => L_fieldAddr FA_98_1 rfl ⟨rfl, hs⟩
      · exact obgy [3, 4] [] [4] (decide (o.kind = 1)) rfl (fun _ => rfl) rfl (fun _ _ _ _ h => h) (fun hG => ⟨hG, trivial⟩) fun D ρ w hG hs => L_ld (V := .int .u8 o.kind) S1_5 hs 1 rfl rfl rfl ⟨rfl, hs⟩
      · exact obgy [3, 5] [] [5] (decide (o.kind = 1)) rfl (fun _ => rfl) rfl (fun _ _ _ _ h => h) (fun hG => ⟨hG, trivial⟩) fun D ρ w hG hs => L_eql rfl rfl ⟨rfl, hs⟩
      · exact ob [3, 6] [] rfl rfl fun D ρ w hs => L_orC (h' := decide (o.kind = 2)) rfl rfl rfl ⟨rfl, hs⟩
      · exact ob [7] [] rfl rfl fun D ρ w hs => L_move (V := .bool ((decide (o.kind = 1)) || (decide (o.kind = 2)))) rfl ⟨rfl, hs⟩
      · exact obg [8] [] ((decide (o.kind = 1)) || (decide (o.kind = 2))) rfl (fun _ => rfl) rfl (fun _ _ _ _ h => h) fun D ρ w hG hs => L_fieldAddr FA_98_1 rfl ⟨rfl, hs⟩
      · exact obgy [8, 9] [] [9] ((decide (o.kind = 1)) || (decide (o.kind = 2))) rfl (fun _ => rfl) rfl (fun _ _ _ _ h => h) (fun hG => ⟨hG, trivial⟩) fun D ρ w hG hs => L_ld (V := .int .u8 o.kind) S1_5 hs 1 rfl rfl rfl ⟨rfl, hs⟩
      · exact obgy [8, 10] [] [10] ((decide (o.kind = 1)) || (decide (o.kind = 2))) rfl (fun _ => rfl) rfl (fun _ _ _ _ h => h) (fun hG => ⟨hG, trivial⟩) fun D ρ w hG hs => L_eql rfl rfl ⟨rfl, hs⟩
      · exact ob [8, 11] [] rfl rfl fun D ρ w hs => opW_to (V := .bool (((decide (o.kind = 1)) || (decide (o.kind = 2))) || (decide (o.kind = 4)))) (V' := .bool (laysB o)) (L_orC (h' := decide (o.kind = 4)) rfl rfl rfl ⟨rfl, rfl⟩) (congrArg Value.bool (lays_or o)) ⟨rfl, hs⟩
      rintro ρ1 w21 ρ2 hρ hs
      replace hρ : ρ2 = upd (mix [38, 39, 40, 41, 42, 43, 44, 45, 46, 47, 48, 49, 50] ρ1 _) 50 (.bool (laysB o)) := hρ
      subst hρ
      refine W_mid (fun ρ ρ' w' => ∃ (ρo : Env) (a9 : Option Addr) (c9 : Nat) (L9 : List Cen), ρ' = mix [8, 9, 10, 51, 52, 53, 54, 55, 56, 57, 58, 59, 60, 61, 62, 63, 64, 65, 66, 67, 68, 69, 70, 71, 72, 73, 74, 75, 76, 77] ρo ρ ∧ (L9 = (applyE s o).ents) ∧ Own w no w' [blk b1 ((vc s.known) ++ [(.slice a1 s.ents.length c1 : Value), (.slice a2 s.ticks.length c2 : Value) ]) 62, blk b3 (oc o) 98, blk b5 ((vc vzero) ++ [(.slice none 0 0 : Value), (.slice none 0 0 : Value) ]) 62, row (.slice a9 L9.length c9) (L9.map cec) 128 7, row (.slice x13.2.1 s.ticks.length x13.2.2) (s.ticks.map lsc) 126 2, blk b15 ((vc (vset s.known o.dot.rep.toNat o.dot.seq)) ++ [(.slice a9 L9.length c9 : Value), (.slice x13.2.1 s.ticks.length x13.2.2 : Value) ]) 62]) ?_ ?_
      ·
        refine W_cond (t := laysB o) rfl (fun c22 => ?_) (fun c22 => ?_)
        ·
          refine W_seq ?_
          replace hs := hs.more emp trivial
          refine W_regD HM [some 51, some 52, some 53, some 54, some 55, some 56, some 57, some 58, some 59, some 60, some 61, some 62, some 63, some 8, none] [[], [], [], [], [], [], [], [], [], [], [], [], [], [8]] [0, 1, 0, 4, 0, 16, 0, 64, 0, 256, 0, 1024, 4095, 0, 16383] [pv (.pointer (some ⟨b3, 0 + 3, none⟩)), pv (.int .u16 o.cart), pv (.pointer (some ⟨b3, 0 + 4, none⟩)), pv (.int .u16 o.item), pv (.pointer (some ⟨b3, 0 + 5, none⟩)), pv (.int .u16 o.qty), pv (.pointer (some ⟨b3, 0 + 2, none⟩)), pv (.int .u8 o.kind), pv (.pointer (some ⟨b3, 0 + 0, none⟩)), pv (.agg (dc o.dot).toArray), pv (.agg (oc o).toArray), pv (.int .u64 (cntO o)), pv (.agg (cec (⟨o.cart, o.item, o.qty, o.kind, o.dot, cntO o⟩ : Cen)).toArray), (true, fun ρ => .pointer (some ⟨(bOf (ρ 8)), 0, none⟩)), pn] (fun D ρ => [blk b1 ((vc s.known) ++ [(.slice a1 s.ents.length c1 : Value), (.slice a2 s.ticks.length c2 : Value) ]) 62, blk b3 (oc o) 98, blk b5 ((vc vzero) ++ [(.slice none 0 0 : Value), (.slice none 0 0 : Value) ]) 62, row (.slice x13.1.1 ((s.ents.filter fun x => !(fun x => endsB o (laidO x)) x).length) x13.1.2) ((s.ents.filter fun x => !(fun x => endsB o (laidO x)) x).map cec) 128 7, row (.slice x13.2.1 s.ticks.length x13.2.2) (s.ticks.map lsc) 126 2, blk b15 ((vc (vset s.known o.dot.rep.toNat o.dot.seq)) ++ [(.slice x13.1.1 ((s.ents.filter fun x => !(fun x => endsB o (laidO x)) x).length) x13.1.2 : Value), (.slice x13.2.1 s.ticks.length x13.2.2 : Value) ]) 62, cond (D 14) (blk (bOf (ρ 8)) (cec (⟨o.cart, o.item, o.qty, o.kind, o.dot, cntO o⟩ : Cen)) 128) (cond (D 13) (blk (bOf (ρ 8)) (cec (⟨0, 0, 0, 0, (⟨0, 0⟩ : Dot), 0⟩ : Cen)) 128) (emp))]) [13] (by kernel_rfl) hs ⟨?_, ?_, ?_, ?_, ?_, ?_, ?_, ?_, ?_, ?_, ?_, ?_, ?_, ?_, ?_, trivial⟩ ?_
          · exact ob [] [] rfl rfl fun D ρ w hs => L_fieldAddr FA_98_2 rfl ⟨rfl, hs⟩
          · exact ob [0] [] rfl rfl fun D ρ w hs => L_ld (V := .int .u16 o.cart) S1_70 hs 1 rfl rfl rfl ⟨rfl, hs⟩
          · exact ob [] [] rfl rfl fun D ρ w hs => L_fieldAddr FA_98_3 rfl ⟨rfl, hs⟩
          · exact ob [2] [] rfl rfl fun D ρ w hs => L_ld (V := .int .u16 o.item) S1_70 hs 1 rfl rfl rfl ⟨rfl, hs⟩
          · exact ob [] [] rfl rfl fun D ρ w hs => L_fieldAddr FA_98_4 rfl ⟨rfl, hs⟩
          · exact ob [4] [] rfl rfl fun D ρ w hs => L_ld (V := .int .u16 o.qty) S1_70 hs 1 rfl rfl rfl ⟨rfl, hs⟩
          · exact ob [] [] rfl rfl fun D ρ w hs => L_fieldAddr FA_98_1 rfl ⟨rfl, hs⟩
          · exact ob [6] [] rfl rfl fun D ρ w hs => L_ld (V := .int .u8 o.kind) S1_5 hs 1 rfl rfl rfl ⟨rfl, hs⟩
          · exact ob [] [] rfl rfl fun D ρ w hs => L_fieldAddr FA_98_0 rfl ⟨rfl, hs⟩
          · exact ob [8] [] rfl rfl fun D ρ w hs => L_ldA (vs := dc o.dot) SA_96 hs 1 rfl rfl rfl rfl ⟨rfl, hs⟩
          · exact ob [] [] rfl rfl fun D ρ w hs => L_ldW (cs := oc o) SA_98 hs 1 rfl rfl rfl ⟨rfl, hs⟩
          · exact ob [10] [] rfl rfl fun D ρ w hs => L_callP (vs := [.agg (oc o).toArray]) (V := .int .u64 (cntO o)) EN_88 rfl rfl (oCount_ok _ o (by assumption)) hs fun _ hs => ⟨rfl, hs⟩
          · exact ob [1, 3, 5, 7, 9, 11] [] rfl rfl fun D ρ w hs => L_build (vs := [(0, .int .u16 o.cart), (1, .int .u16 o.item), (2, .int .u16 o.qty), (3, .int .u8 o.kind), (4, .agg (dc o.dot).toArray), (5, .int .u64 (cntO o))]) (cs := cec (⟨o.cart, o.item, o.qty, o.kind, o.dot, cntO o⟩ : Cen)) BT_128 (rfl) rfl ⟨rfl, hs⟩
          · exact ob [] [14] rfl rfl fun D ρ w hs => L_alloc (cs := cec (⟨0, 0, 0, 0, (⟨0, 0⟩ : Dot), 0⟩ : Cen)) ZV_128 rfl hs fun _ _ hs => ⟨rfl, hs.put 6 (Nat.le_of_ble_eq_true rfl)⟩
          · exact ob [12, 13] [] rfl rfl fun D ρ w hs => L_st (V := .agg (cec (⟨o.cart, o.item, o.qty, o.kind, o.dot, cntO o⟩ : Cen)).toArray) (vs := cec (⟨o.cart, o.item, o.qty, o.kind, o.dot, cntO o⟩ : Cen)) (cs' := cec (⟨o.cart, o.item, o.qty, o.kind, o.dot, cntO o⟩ : Cen)) SA_128.1 hs 6 rfl rfl rfl rfl rfl (Nat.le_of_ble_eq_true rfl) (cec_one _) (spl_whole rfl) fun _ hs => ⟨trivial, hs⟩
          rintro ρ1 w26 ρ2 hρ hs
          replace hρ : ρ2 = upd (mix [51, 52, 53, 54, 55, 56, 57, 58, 59, 60, 61, 62, 63, 8] ρ1 _) 8 (.pointer (some ⟨(bOf (ρ1 8)), 0, none⟩)) := hρ
          replace hs : Own w no w26 [blk b1 ((vc s.known) ++ [(.slice a1 s.ents.length c1 : Value), (.slice a2 s.ticks.length c2 : Value) ]) 62, blk b3 (oc o) 98, blk b5 ((vc vzero) ++ [(.slice none 0 0 : Value), (.slice none 0 0 : Value) ]) 62, row (.slice x13.1.1 ((s.ents.filter fun x => !(fun x => endsB o (laidO x)) x).length) x13.1.2) ((s.ents.filter fun x => !(fun x => endsB o (laidO x)) x).map cec) 128 7, row (.slice x13.2.1 s.ticks.length x13.2.2) (s.ticks.map lsc) 126 2, blk b15 ((vc (vset s.known o.dot.rep.toNat o.dot.seq)) ++ [(.slice x13.1.1 ((s.ents.filter fun x => !(fun x => endsB o (laidO x)) x).length) x13.1.2 : Value), (.slice x13.2.1 s.ticks.length x13.2.2 : Value) ]) 62, blk (bOf (ρ1 8)) (cec (⟨o.cart, o.item, o.qty, o.kind, o.dot, cntO o⟩ : Cen)) 128] := hs
          generalize (bOf (ρ1 8)) = b27 at hρ hs
          subst hρ
          refine W_seq ?_
          have hfl := List.length_filter_le (fun x => !(fun x => endsB o (laidO x)) x) s.ents
          refine W_region ?_
          refine RW_op (L_fieldAddr FA_62_1 rfl ?_)
          refine RW_op (L_ld (V := .slice x13.1.1 ((s.ents.filter fun x => !(fun x => endsB o (laidO x)) x).length) x13.1.2) S1_59 hs 5 rfl rfl rfl ?_)
          refine RW_op (L_ldW (cs := cec (⟨o.cart, o.item, o.qty, o.kind, o.dot, cntO o⟩ : Cen)) SA_128 hs 6 rfl rfl rfl ?_)
          refine RW_op (L_callPV (vs := [.slice x13.1.1 ((s.ents.filter fun x => !(fun x => endsB o (laidO x)) x).length) x13.1.2, .agg (cec (⟨o.cart, o.item, o.qty, o.kind, o.dot, cntO o⟩ : Cen)).toArray, .func (.func 64) #[] #[]]) (V := .tuple #[.int .i64 ((posB (fun x => decide ((fun x : Cen => placeI x (⟨o.cart, o.item, o.qty, o.kind, o.dot, cntO o⟩ : Cen)) x < 0)) (s.ents.filter fun x => !(fun x => endsB o (laidO x)) x) : Nat) : Int), .bool (decide (posB (fun x => decide ((fun x : Cen => placeI x (⟨o.cart, o.item, o.qty, o.kind, o.dot, cntO o⟩ : Cen)) x < 0)) (s.ents.filter fun x => !(fun x => endsB o (laidO x)) x) < (s.ents.filter fun x => !(fun x => endsB o (laidO x)) x).length) && decide ((fun x : Cen => placeI x (⟨o.cart, o.item, o.qty, o.kind, o.dot, cntO o⟩ : Cen)) (gd (s.ents.filter fun x => !(fun x => endsB o (laidO x)) x) (posB (fun x => decide ((fun x : Cen => placeI x (⟨o.cart, o.item, o.qty, o.kind, o.dot, cntO o⟩ : Cen)) x < 0)) (s.ents.filter fun x => !(fun x => endsB o (laidO x)) x))) = 0))]) (V' := .tuple #[.int .i64 ((posB (befE (⟨o.cart, o.item, o.qty, o.kind, o.dot, cntO o⟩ : Cen)) (s.ents.filter fun x => !(fun x => endsB o (laidO x)) x) : Nat) : Int), .bool (decide (posB (befE (⟨o.cart, o.item, o.qty, o.kind, o.dot, cntO o⟩ : Cen)) (s.ents.filter fun x => !(fun x => endsB o (laidO x)) x) < (s.ents.filter fun x => !(fun x => endsB o (laidO x)) x).length) && decide (placeI (gd (s.ents.filter fun x => !(fun x => endsB o (laidO x)) x) (posB (befE (⟨o.cart, o.item, o.qty, o.kind, o.dot, cntO o⟩ : Cen)) (s.ents.filter fun x => !(fun x => endsB o (laidO x)) x))) (⟨o.cart, o.item, o.qty, o.kind, o.dot, cntO o⟩ : Cen) = 0))]) rfl EN_89 rfl rfl (bsf128_ok _ x13.1.1 x13.1.2 (s.ents.filter fun x => !(fun x => endsB o (laidO x)) x) (⟨o.cart, o.item, o.qty, o.kind, o.dot, cntO o⟩ : Cen) (by omega) 64 EN_64 (fun x : Cen => placeI x (⟨o.cart, o.item, o.qty, o.kind, o.dot, cntO o⟩ : Cen)) (fun w x => place_ok w x (⟨o.cart, o.item, o.qty, o.kind, o.dot, cntO o⟩ : Cen)) (posE_mono (List.Pairwise.sublist List.filter_sublist hrc.re) (⟨o.cart, o.item, o.qty, o.kind, o.dot, cntO o⟩ : Cen)) (hs.rd 3 rfl)) hs fun w28 hs => ?_)
          refine RW_op (L_move (V := .tuple #[.int .i64 ((posB (befE (⟨o.cart, o.item, o.qty, o.kind, o.dot, cntO o⟩ : Cen)) (s.ents.filter fun x => !(fun x => endsB o (laidO x)) x) : Nat) : Int), .bool (decide (posB (befE (⟨o.cart, o.item, o.qty, o.kind, o.dot, cntO o⟩ : Cen)) (s.ents.filter fun x => !(fun x => endsB o (laidO x)) x) < (s.ents.filter fun x => !(fun x => endsB o (laidO x)) x).length) && decide (placeI (gd (s.ents.filter fun x => !(fun x => endsB o (laidO x)) x) (posB (befE (⟨o.cart, o.item, o.qty, o.kind, o.dot, cntO o⟩ : Cen)) (s.ents.filter fun x => !(fun x => endsB o (laidO x)) x))) (⟨o.cart, o.item, o.qty, o.kind, o.dot, cntO o⟩ : Cen) = 0))]) rfl ?_)
          refine RW_op (L_extract (V := .int .i64 ((posB (befE (⟨o.cart, o.item, o.qty, o.kind, o.dot, cntO o⟩ : Cen)) (s.ents.filter fun x => !(fun x => endsB o (laidO x)) x) : Nat) : Int)) rfl rfl ?_)
          refine RW_op (L_extract (V := .bool (decide (posB (befE (⟨o.cart, o.item, o.qty, o.kind, o.dot, cntO o⟩ : Cen)) (s.ents.filter fun x => !(fun x => endsB o (laidO x)) x) < (s.ents.filter fun x => !(fun x => endsB o (laidO x)) x).length) && decide (placeI (gd (s.ents.filter fun x => !(fun x => endsB o (laidO x)) x) (posB (befE (⟨o.cart, o.item, o.qty, o.kind, o.dot, cntO o⟩ : Cen)) (s.ents.filter fun x => !(fun x => endsB o (laidO x)) x))) (⟨o.cart, o.item, o.qty, o.kind, o.dot, cntO o⟩ : Cen) = 0))) rfl rfl ?_)
          refine RW_op (L_assign (V := .int .i64 ((posB (befE (⟨o.cart, o.item, o.qty, o.kind, o.dot, cntO o⟩ : Cen)) (s.ents.filter fun x => !(fun x => endsB o (laidO x)) x) : Nat) : Int)) rfl ?_)
          refine RW_op (L_assign (V := .bool (decide (posB (befE (⟨o.cart, o.item, o.qty, o.kind, o.dot, cntO o⟩ : Cen)) (s.ents.filter fun x => !(fun x => endsB o (laidO x)) x) < (s.ents.filter fun x => !(fun x => endsB o (laidO x)) x).length) && decide (placeI (gd (s.ents.filter fun x => !(fun x => endsB o (laidO x)) x) (posB (befE (⟨o.cart, o.item, o.qty, o.kind, o.dot, cntO o⟩ : Cen)) (s.ents.filter fun x => !(fun x => endsB o (laidO x)) x))) (⟨o.cart, o.item, o.qty, o.kind, o.dot, cntO o⟩ : Cen) = 0))) rfl ?_)
          refine RW_nil ?_
          have hpe := posB_len (f := befE (⟨o.cart, o.item, o.qty, o.kind, o.dot, cntO o⟩ : Cen)) (l := s.ents.filter fun x => !(fun x => endsB o (laidO x)) x)
          refine W_region ?_
          refine RW_op (L_fieldAddr FA_62_1 rfl ?_)
          refine RW_op (L_ld (V := .slice x13.1.1 ((s.ents.filter fun x => !(fun x => endsB o (laidO x)) x).length) x13.1.2) S1_59 hs 5 rfl rfl rfl ?_)
          refine RW_op (L_move (V := .int .i64 ((posB (befE (⟨o.cart, o.item, o.qty, o.kind, o.dot, cntO o⟩ : Cen)) (s.ents.filter fun x => !(fun x => endsB o (laidO x)) x) : Nat) : Int)) rfl ?_)
          refine RW_op (L_ldW (cs := cec (⟨o.cart, o.item, o.qty, o.kind, o.dot, cntO o⟩ : Cen)) SA_128 hs 6 rfl rfl rfl ?_)
          refine RW_op (L_bs (vals := [.agg (cec (⟨o.cart, o.item, o.qty, o.kind, o.dot, cntO o⟩ : Cen)).toArray]) (ls := List.map cec ([(⟨o.cart, o.item, o.qty, o.kind, o.dot, cntO o⟩ : Cen)] : List Cen)) EL_59 rfl rfl rfl (len_map (enc := cec) (fun _ => rfl) _) (one_map cec_one _) (Nat.le_of_ble_eq_true rfl) hs fun b29 w30 hs => ?_)
          refine RW_op (L_callD (α := Option Addr × Nat) (vs := [.slice x13.1.1 ((s.ents.filter fun x => !(fun x => endsB o (laidO x)) x).length) x13.1.2, .int .i64 ((posB (befE (⟨o.cart, o.item, o.qty, o.kind, o.dot, cntO o⟩ : Cen)) (s.ents.filter fun x => !(fun x => endsB o (laidO x)) x) : Nat) : Int), .slice (some ⟨b29, 0, none⟩) 1 1]) (V := fun x => .slice x.1 (insL (s.ents.filter fun x => !(fun x => endsB o (laidO x)) x) (posB (befE (⟨o.cart, o.item, o.qty, o.kind, o.dot, cntO o⟩ : Cen)) (s.ents.filter fun x => !(fun x => endsB o (laidO x)) x)) (⟨o.cart, o.item, o.qty, o.kind, o.dot, cntO o⟩ : Cen)).length x.2) (R := row (.slice x13.1.1 ((s.ents.filter fun x => !(fun x => endsB o (laidO x)) x).length) x13.1.2) ((s.ents.filter fun x => !(fun x => endsB o (laidO x)) x).map cec) 128 7) (R' := fun x => row (.slice x.1 (insL (s.ents.filter fun x => !(fun x => endsB o (laidO x)) x) (posB (befE (⟨o.cart, o.item, o.qty, o.kind, o.dot, cntO o⟩ : Cen)) (s.ents.filter fun x => !(fun x => endsB o (laidO x)) x)) (⟨o.cart, o.item, o.qty, o.kind, o.dot, cntO o⟩ : Cen)).length x.2) ((insL (s.ents.filter fun x => !(fun x => endsB o (laidO x)) x) (posB (befE (⟨o.cart, o.item, o.qty, o.kind, o.dot, cntO o⟩ : Cen)) (s.ents.filter fun x => !(fun x => endsB o (laidO x)) x)) (⟨o.cart, o.item, o.qty, o.kind, o.dot, cntO o⟩ : Cen)).map cec) 128 7) (Lo := fun _ => []) (F := fun _ _ => True) EN_90 rfl rfl hs 3 7 (by decide) rfl rfl (Nat.le_of_ble_eq_true rfl) (fun S hS hlt hnS hpl9 => ins128_ok _ S x13.1.1 x13.1.2 (s.ents.filter fun x => !(fun x => endsB o (laidO x)) x) (posB (befE (⟨o.cart, o.item, o.qty, o.kind, o.dot, cntO o⟩ : Cen)) (s.ents.filter fun x => !(fun x => endsB o (laidO x)) x)) hpe (⟨o.cart, o.item, o.qty, o.kind, o.dot, cntO o⟩ : Cen) (some ⟨b29, 0, none⟩) 1 (hs.rd 7 rfl) hpl9 hnS hpl9.lt (by omega) hS hlt) fun x32 w31 hs _ => ?_)
          refine RW_op (L_fieldAddr FA_62_1 rfl ?_)
          refine RW_op (L_st1 (V := .slice x32.1 ((insL (s.ents.filter fun x => !(fun x => endsB o (laidO x)) x) (posB (befE (⟨o.cart, o.item, o.qty, o.kind, o.dot, cntO o⟩ : Cen)) (s.ents.filter fun x => !(fun x => endsB o (laidO x)) x)) (⟨o.cart, o.item, o.qty, o.kind, o.dot, cntO o⟩ : Cen)).length) x32.2) (cs' := (vc (vset s.known o.dot.rep.toNat o.dot.seq)) ++ [(.slice x32.1 ((insL (s.ents.filter fun x => !(fun x => endsB o (laidO x)) x) (posB (befE (⟨o.cart, o.item, o.qty, o.kind, o.dot, cntO o⟩ : Cen)) (s.ents.filter fun x => !(fun x => endsB o (laidO x)) x)) (⟨o.cart, o.item, o.qty, o.kind, o.dot, cntO o⟩ : Cen)).length) x32.2 : Value), (.slice x13.2.1 s.ticks.length x13.2.2 : Value) ]) S1_59 hs 5 rfl rfl rfl rfl (Nat.le_of_ble_eq_true rfl) rfl fun w33 hs => ?_)
          replace hs : Own w no w33 [blk b1 ((vc s.known) ++ [(.slice a1 s.ents.length c1 : Value), (.slice a2 s.ticks.length c2 : Value) ]) 62, blk b3 (oc o) 98, blk b5 ((vc vzero) ++ [(.slice none 0 0 : Value), (.slice none 0 0 : Value) ]) 62, row (.slice x32.1 ((insL (s.ents.filter fun x => !(fun x => endsB o (laidO x)) x) (posB (befE (⟨o.cart, o.item, o.qty, o.kind, o.dot, cntO o⟩ : Cen)) (s.ents.filter fun x => !(fun x => endsB o (laidO x)) x)) (⟨o.cart, o.item, o.qty, o.kind, o.dot, cntO o⟩ : Cen)).length) x32.2) ((insL (s.ents.filter fun x => !(fun x => endsB o (laidO x)) x) (posB (befE (⟨o.cart, o.item, o.qty, o.kind, o.dot, cntO o⟩ : Cen)) (s.ents.filter fun x => !(fun x => endsB o (laidO x)) x)) (⟨o.cart, o.item, o.qty, o.kind, o.dot, cntO o⟩ : Cen)).map cec) 128 7, row (.slice x13.2.1 s.ticks.length x13.2.2) (s.ticks.map lsc) 126 2, blk b15 ((vc (vset s.known o.dot.rep.toNat o.dot.seq)) ++ [(.slice x32.1 ((insL (s.ents.filter fun x => !(fun x => endsB o (laidO x)) x) (posB (befE (⟨o.cart, o.item, o.qty, o.kind, o.dot, cntO o⟩ : Cen)) (s.ents.filter fun x => !(fun x => endsB o (laidO x)) x)) (⟨o.cart, o.item, o.qty, o.kind, o.dot, cntO o⟩ : Cen)).length) x32.2 : Value), (.slice x13.2.1 s.ticks.length x13.2.2 : Value) ]) 62, blk b27 (cec (⟨o.cart, o.item, o.qty, o.kind, o.dot, cntO o⟩ : Cen)) 128, row (.slice (some ⟨b29, 0, none⟩) 1 1) ([(⟨o.cart, o.item, o.qty, o.kind, o.dot, cntO o⟩ : Cen)].map cec) 128 7] := hs
          refine RW_nil ?_
          exact ⟨_, x32.1, x32.2, insL (s.ents.filter fun x => !(fun x => endsB o (laidO x)) x) (posB (befE (⟨o.cart, o.item, o.qty, o.kind, o.dot, cntO o⟩ : Cen)) (s.ents.filter fun x => !(fun x => endsB o (laidO x)) x)) (⟨o.cart, o.item, o.qty, o.kind, o.dot, cntO o⟩ : Cen), mix_of (ds := [8, 9, 10, 51, 52, 53, 54, 55, 56, 57, 58, 59, 60, 61, 62, 63, 64, 65, 66, 67, 68, 69, 70, 71, 72, 73, 74, 75, 76, 77]) (by repeat (first | exact Agr.refl _ _ | refine Agr.upd ?_ rfl | refine Agr.mix ?_ rfl)), (by unfold applyE; rw [if_pos c22]; exact (putE_ins (fun hm => hfd (filt_dots hm))).symm), hs.take 6⟩
        ·
          refine W_skip ?_
          exact ⟨_, x13.1.1, x13.1.2, (s.ents.filter fun x => !(fun x => endsB o (laidO x)) x), mix_of (ds := [8, 9, 10, 51, 52, 53, 54, 55, 56, 57, 58, 59, 60, 61, 62, 63, 64, 65, 66, 67, 68, 69, 70, 71, 72, 73, 74, 75, 76, 77]) (by repeat (first | exact Agr.refl _ _ | refine Agr.upd ?_ rfl | refine Agr.mix ?_ rfl)), (by unfold applyE; rw [if_neg (by rw [c22]; decide)]), hs.take 6⟩
      · rintro ρ' w34 ⟨ρo, a9, c9, L9, rfl, hL9, hs⟩
        refine W_seq ?_
        refine W_region ?_
        refine RW_op (L_fieldAddr FA_98_2 rfl ?_)
        refine RW_op (L_ld (V := .int .u16 o.cart) S1_70 hs 1 rfl rfl rfl ?_)
        refine RW_op (L_fieldAddr FA_98_5 rfl ?_)
        refine RW_op (L_ld (V := .int .u32 o.tick) S1_51 hs 1 rfl rfl rfl ?_)
        refine RW_op (L_build (vs := [(0, .int .u16 o.cart), (1, .int .u32 o.tick)]) (cs := lsc (⟨o.cart, o.tick⟩ : Lst)) BT_126 (rfl) rfl ?_)
        replace hs := hs.join 5 4 (by decide) rfl rfl
        refine RW_op (L_callB (α := Option Addr × Nat) (vs := [.pointer (some ⟨b15, 0, none⟩), .agg (lsc (⟨o.cart, o.tick⟩ : Lst)).toArray]) (V := fun _ => .tuple #[]) (R := star [blk b15 (vc (vset s.known o.dot.rep.toNat o.dot.seq) ++ [(.slice a9 L9.length c9 : Value), (.slice x13.2.1 s.ticks.length x13.2.2 : Value)]) 62, row (.slice x13.2.1 s.ticks.length x13.2.2) (s.ticks.map lsc) 126 2]) (R' := fun x => star [blk b15 (vc (vset s.known o.dot.rep.toNat o.dot.seq) ++ [(.slice a9 L9.length c9 : Value), (.slice x.1 (putT o.cart o.tick s.ticks).length x.2 : Value)]) 62, row (.slice x.1 (putT o.cart o.tick s.ticks).length x.2) ((putT o.cart o.tick s.ticks).map lsc) 126 2]) (Lo := fun _ => []) (F := fun _ _ => True) EN_65 rfl rfl hs 5 rfl (fun S hS hlS => tick_ok _ S b15 (vset s.known o.dot.rep.toNat o.dot.seq) (.slice a9 L9.length c9) x13.2.1 x13.2.2 s.ticks (⟨o.cart, o.tick⟩ : Lst) (by omega) hrc.rt hS hlS) fun x35 w36 hs _ => ?_)
        replace hs := hs.split 5 rfl
        replace hs := hs.put 4 (Nat.le_of_ble_eq_true rfl)
        refine RW_nil ?_
        refine W_seq ?_
        refine W_region ?_
        refine RW_op (L_ldW (cs := (vc (vset s.known o.dot.rep.toNat o.dot.seq)) ++ [(.slice a9 L9.length c9 : Value), (.slice x35.1 ((putT o.cart o.tick s.ticks).length) x35.2 : Value) ]) SA_62 hs 5 rfl rfl rfl ?_)
        refine RW_op (L_st (V := .agg ((vc (vset s.known o.dot.rep.toNat o.dot.seq)) ++ [(.slice a9 L9.length c9 : Value), (.slice x35.1 ((putT o.cart o.tick s.ticks).length) x35.2 : Value) ]).toArray) (vs := (vc (vset s.known o.dot.rep.toNat o.dot.seq)) ++ [(.slice a9 L9.length c9 : Value), (.slice x35.1 ((putT o.cart o.tick s.ticks).length) x35.2 : Value) ]) (cs' := (vc (vset s.known o.dot.rep.toNat o.dot.seq)) ++ [(.slice a9 L9.length c9 : Value), (.slice x35.1 ((putT o.cart o.tick s.ticks).length) x35.2 : Value) ]) SA_62.1 hs 2 rfl rfl rfl rfl rfl (Nat.le_of_ble_eq_true rfl) (one_app (vc_one _) (one_cons rfl (one_cons rfl one_nil))) (spl_whole rfl) fun w37 hs => ?_)
        refine RW_op (L_assign (V := .int .i64 0) rfl ?_)
        refine RW_nil ?_
        refine W_ret ?_
        refine ⟨_, res_cell2 (cs := (vc (vset s.known o.dot.rep.toNat o.dot.seq)) ++ [(.slice a9 L9.length c9 : Value), (.slice x35.1 ((putT o.cart o.tick s.ticks).length) x35.2 : Value) ]) (V := .int .i64 0) Try.results45 SA_62 hs 2 rfl rfl rfl rfl, ?_⟩
        have hI : applyI s o = 0 := by unfold applyI; rw [if_pos c8]; exact c11
        have hR : applyR s o = (⟨vset s.known o.dot.rep.toNat o.dot.seq, L9, putT o.cart o.tick s.ticks⟩ : Sta) := by unfold applyR; rw [if_pos hI, hL9]; rfl
        rw [hI, hR]
        exact ⟨((a9, c9), (x35.1, x35.2)), rfl, hs.two 3 4 (by decide) rfl rfl, trivial⟩
end Tt
end Go.Proofs
namespace Go.Proofs
open Go Go.Vx Go.RowKit
namespace Tt
set_option maxRecDepth 20000 in
set_option maxHeartbeats 4000000 in
theorem sDots_ok (w : World) (s : Sta) (a1 : Option Addr) (c1 : Nat) (a2 : Option Addr) (c2 : Nat) (hr1 : Rd w (.slice a1 s.ents.length c1) 7 (s.ents.map cec)) (hr2 : Rd w (.slice a2 s.ticks.length c2) 2 (s.ticks.map lsc)) : Calls Try.prog 59 #[.agg ((vc s.known) ++ [(.slice a1 s.ents.length c1 : Value), (.slice a2 s.ticks.length c2 : Value) ]).toArray] w (fun e w' => ∃ x : Nat, e = .returned (.map (some x)) ∧ Own w no w' [mapR x dv cv (dotsM s.ents)] ∧ True) := by
  refine calls_of_Wn (n := 20) Try.func59 rfl Try.ntmps59 rfl ?_
  have hs := Own.start w
  have hn1 := hr1.sml
  refine W_seq ?_
  refine W_region ?_
  refine RW_op (L_box (V := .agg ((vc s.known) ++ [(.slice a1 s.ents.length c1 : Value), (.slice a2 s.ticks.length c2 : Value) ]).toArray) (cs := (vc s.known) ++ [(.slice a1 s.ents.length c1 : Value), (.slice a2 s.ticks.length c2 : Value) ]) rfl rfl hs fun b1 w2 hs => ?_)
  refine RW_op (L_assign (V := .map none) rfl ?_)
  refine RW_nil ?_
  refine W_seq ?_
  refine W_region ?_
  refine RW_op (L_makeMap rfl hs dv cv fun mr3 w4 hs => ?_)
  refine RW_op (L_assign (V := .map (some mr3)) rfl ?_)
  refine RW_nil ?_
  refine W_seq ?_
  refine W_seq ?_
  refine W_region ?_
  refine RW_op (L_fieldAddr FA_62_1 rfl ?_)
  refine RW_op (L_ld (V := .slice a1 s.ents.length c1) S1_59 hs 0 rfl rfl rfl ?_)
  refine RW_op (L_lenR (n := s.ents.length) UD_59 (Rd.own' hr1 hs) (by simp) rfl ?_)
  refine RW_op (L_move (V := .int .i64 0) rfl ?_)
  refine RW_nil ?_
  refine W_block ?_
  refine W_loopI (fun ρ μ ρ' w' => ∃ (ρo : Env) (k : Nat) (sm : List (Dot × Cen)), ρ' = upd (mix [5, 10, 11, 12, 13, 14, 15, 16, 17, 18] ρo ρ) 10 (.int .i64 ((k : Nat) : Int)) ∧ (k ≤ s.ents.length) ∧ (sm = dotsM (s.ents.take k)) ∧ μ = s.ents.length - k ∧ Own w no w' [blk b1 ((vc s.known) ++ [(.slice a1 s.ents.length c1 : Value), (.slice a2 s.ticks.length c2 : Value) ]) 62, mapR mr3 dv cv sm]) ?_ ?_
  · exact ⟨_, _, 0, [], upd_of (mix_of (ds := [5, 10, 11, 12, 13, 14, 15, 16, 17, 18]) (Agr.refl _ _)) rfl, (by omega), rfl, rfl, hs⟩
  · rintro μ ρ' w5 ⟨ρo, k, sm, rfl, hk, hsm, rfl, hs⟩
    refine W_seq ?_
    refine W_region ?_
    refine RW_op (L_lss rfl rfl ?_)
    refine RW_nil ?_
    refine W_seq ?_
    refine W_cond (t := decide (((k : Nat) : Int) < ((s.ents.length : Nat) : Int))) rfl (fun c6 => ?_) (fun c6 => ?_)
    ·
      replace c6 := of_decide_eq_true c6
      refine W_skip ?_
      refine W_seq ?_
      refine W_block ?_
      refine W_seq ?_
      refine W_region ?_
      refine RW_op (L_ixR UD_59 SA_128.1 (Rd.own' hr1 hs) rfl rfl (by omega) (by rw [List.length_map]; omega) ?_)
      refine RW_op (L_ldRA (j := 0) (vs := cec (gd s.ents k)) k SA_128 (Rd.own' hr1 hs) (gd_at (by omega)) rfl rfl rfl (by omega) ?_)
      refine RW_op (L_alloc (cs := cec (⟨0, 0, 0, 0, (⟨0, 0⟩ : Dot), 0⟩ : Cen)) ZV_128 rfl hs fun b7 w8 hs => ?_)
      refine RW_op (L_st (V := .agg (cec (gd s.ents k)).toArray) (vs := cec (gd s.ents k)) (cs' := cec (gd s.ents k)) SA_128.1 hs 2 rfl rfl rfl rfl rfl (Nat.le_of_ble_eq_true rfl) (cec_one _) (spl_whole rfl) fun w9 hs => ?_)
      replace hs : Own w no w9 [blk b1 ((vc s.known) ++ [(.slice a1 s.ents.length c1 : Value), (.slice a2 s.ticks.length c2 : Value) ]) 62, mapR mr3 dv cv sm, blk b7 (cec (gd s.ents k)) 128] := hs
      refine RW_nil ?_
      refine W_region ?_
      refine RW_op (L_move (V := .map (some mr3)) rfl ?_)
      refine RW_op (L_fieldAddr FA_128_4 rfl ?_)
      refine RW_op (L_ldA (vs := dc ((gd s.ents k).dot)) SA_96 hs 2 rfl rfl rfl rfl ?_)
      refine RW_op (L_ldW (cs := cec (gd s.ents k)) SA_128 hs 2 rfl rfl rfl ?_)
      refine RW_op (L_mapSet (k := (gd s.ents k).dot) (v := gd s.ents k) UD_122 KO_96 hs 1 rfl rfl rfl rfl fun w10 hs => ?_)
      refine RW_nil ?_
      refine W_region ?_
      refine RW_op (L_add (a := ((k : Nat) : Int)) (b := 1) (c := ((k + 1 : Nat) : Int)) rfl rfl (nat_i64 (by omega) (by omega)) ?_)
      refine RW_op (L_move (V := .int .i64 ((k + 1 : Nat) : Int)) rfl ?_)
      refine RW_nil ?_
      refine ⟨_, ?_, _, k + 1, mput ((gd s.ents k).dot) (gd s.ents k) sm, upd_of (mix_of (ds := [5, 10, 11, 12, 13, 14, 15, 16, 17, 18]) (by repeat (first | exact Agr.refl _ _ | refine Agr.upd ?_ rfl | refine Agr.mix ?_ rfl))) rfl, (by omega), (by rw [dotsM_next (by omega), ← hsm]), rfl, hs.take 2⟩
      omega
    ·
      replace c6 := of_decide_eq_false c6
      refine W_exit ?_
      refine W_seq ?_
      refine W_region ?_
      refine RW_op (L_move (V := .map (some mr3)) rfl ?_)
      refine RW_op (L_assign (V := .map (some mr3)) rfl ?_)
      refine RW_nil ?_
      refine W_ret ?_
      refine ⟨_, res_one (V := .map (some mr3)) Try.results59 rfl, ?_⟩
      have hE : sm = dotsM s.ents := by rw [hsm, take_all (by omega)]
      rw [hE] at hs
      exact ⟨mr3, rfl, hs.only 1 rfl, trivial⟩
end Tt
end Go.Proofs
namespace Go.Proofs
open Go Go.Vx Go.RowKit
namespace Tt
set_option maxRecDepth 20000 in
set_option maxHeartbeats 4000000 in
theorem cMerge_ok (w : World) (p : Sta) (a1p : Option Addr) (c1p : Nat) (a2p : Option Addr) (c2p : Nat) (q : Sta) (a1q : Option Addr) (c1q : Nat) (a2q : Option Addr) (c2q : Nat) (hsortE : SortC Try.prog 63 64 cec 128 7 srtE) (hokp : StaOk p) (hlep : p.ents.length ≤ 1000) (hltp : p.ticks.length ≤ 1000) (hokq : StaOk q) (hleq : q.ents.length ≤ 1000) (hltq : q.ticks.length ≤ 1000) (hr1p : Rd w (.slice a1p p.ents.length c1p) 7 (p.ents.map cec)) (hr2p : Rd w (.slice a2p p.ticks.length c2p) 2 (p.ticks.map lsc)) (hr1q : Rd w (.slice a1q q.ents.length c1q) 7 (q.ents.map cec)) (hr2q : Rd w (.slice a2q q.ticks.length c2q) 2 (q.ticks.map lsc)) : Calls Try.prog 28 #[.agg ((vc p.known) ++ [(.slice a1p p.ents.length c1p : Value), (.slice a2p p.ticks.length c2p : Value) ]).toArray, .agg ((vc q.known) ++ [(.slice a1q q.ents.length c1q : Value), (.slice a2q q.ticks.length c2q : Value) ]).toArray] w (fun e w' => ∃ x : (Option Addr × Nat) × (Option Addr × Nat), e = .returned (.tuple #[.agg (vc (mergeR p q).known ++ [(.slice x.1.1 (mergeR p q).ents.length x.1.2 : Value), (.slice x.2.1 (mergeR p q).ticks.length x.2.2 : Value)]).toArray, .int .i64 (mergeI p q)]) ∧ Own w no w' [row (.slice x.1.1 (mergeR p q).ents.length x.1.2) ((mergeR p q).ents.map cec) 128 7, row (.slice x.2.1 (mergeR p q).ticks.length x.2.2) ((mergeR p q).ticks.map lsc) 126 2] ∧ True) := by
  refine calls_of_Wn (n := 123) Try.func28 rfl Try.ntmps28 rfl ?_
  have hs := Own.start w
  have ⟨hpv, hpE, hpT⟩ := hokp
  have ⟨hqv, hqE, hqT⟩ := hokq
  refine W_seq ?_
  refine W_region ?_
  refine RW_op (L_box (V := .agg ((vc p.known) ++ [(.slice a1p p.ents.length c1p : Value), (.slice a2p p.ticks.length c2p : Value) ]).toArray) (cs := (vc p.known) ++ [(.slice a1p p.ents.length c1p : Value), (.slice a2p p.ticks.length c2p : Value) ]) rfl rfl hs fun b1 w2 hs => ?_)
  refine RW_op (L_box (V := .agg ((vc q.known) ++ [(.slice a1q q.ents.length c1q : Value), (.slice a2q q.ticks.length c2q : Value) ]).toArray) (cs := (vc q.known) ++ [(.slice a1q q.ents.length c1q : Value), (.slice a2q q.ticks.length c2q : Value) ]) rfl rfl hs fun b3 w4 hs => ?_)
  refine RW_op (L_alloc (cs := (vc vzero) ++ [(.slice none 0 0 : Value), (.slice none 0 0 : Value) ]) ZV_62 rfl hs fun b5 w6 hs => ?_)
  refine RW_op (L_assign (V := .int .i64 0) rfl ?_)
  refine RW_nil ?_
  refine W_seq ?_
  refine W_seq ?_
  refine W_regO [some 19, some 20, some 21, some 22, some 23, some 24, some 25, some 26] [] [0, 1, 3, 7, 15, 31, 63, 127] [pv (.agg ((vc p.known) ++ [(.slice a1p p.ents.length c1p : Value), (.slice a2p p.ticks.length c2p : Value) ]).toArray), pv (.bool (rightS p)), pv (.bool (!(rightS p))), pv (.bool (!(rightS p))), pg ((!(rightS p)) == false) (.agg ((vc q.known) ++ [(.slice a1q q.ents.length c1q : Value), (.slice a2q q.ticks.length c2q : Value) ]).toArray), pg ((!(rightS p)) == false) (.bool (rightS q)), pg ((!(rightS p)) == false) (.bool (!(rightS q))), pv (.bool ((!(rightS p)) || (!(rightS q))))] (fun _ _ => _) [7] (by kernel_rfl) hs ⟨?_, ?_, ?_, ?_, ?_, ?_, ?_, ?_, trivial⟩ ?_
  · exact ob [] [] rfl rfl fun D ρ w hs => L_ldW (cs := (vc p.known) ++ [(.slice a1p p.ents.length c1p : Value), (.slice a2p p.ticks.length c2p : Value) ]) SA_62 hs 0 rfl rfl rfl ⟨rfl, hs⟩
  · exact ob [0] [] rfl rfl fun D ρ w hs => L_callP (vs := [.agg ((vc p.known) ++ [(.slice a1p p.ents.length c1p : Value), (.slice a2p p.ticks.length c2p : Value) ]).toArray]) (V := .bool (rightS p)) EN_58 rfl rfl (cRight_ok _ p a1p c1p a2p c2p hokp (by omega) (by omega) (Rd.own' hr1p hs) (Rd.own' hr2p hs)) hs fun _ hs => ⟨rfl, hs⟩
  · exact ob [1] [] rfl rfl fun D ρ w hs => L_not rfl ⟨rfl, hs⟩
  · exact ob [2] [] rfl rfl fun D ρ w hs => L_move (V := .bool (!(rightS p))) rfl ⟨rfl, hs⟩
  · exact obg [3] [] (!(rightS p)) rfl (fun _ => rfl) rfl (fun _ _ _ _ h => h) fun D ρ w hG hs => L_ldW (cs := (vc q.known) ++ [(.slice a1q q.ents.length c1q : Value), (.slice a2q q.ticks.length c2q : Value) ]) SA_62 hs 1 rfl rfl rfl ⟨rfl, hs⟩
  · exact obgy [3, 4] [] [4] (!(rightS p)) rfl (fun _ => rfl) rfl (fun _ _ _ _ h => h) (fun hG => ⟨hG, trivial⟩) fun D ρ w hG hs => L_callP (vs := [.agg ((vc q.known) ++ [(.slice a1q q.ents.length c1q : Value), (.slice a2q q.ticks.length c2q : Value) ]).toArray]) (V := .bool (rightS q)) EN_58 rfl rfl (cRight_ok _ q a1q c1q a2q c2q hokq (by omega) (by omega) (Rd.own' hr1q hs) (Rd.own' hr2q hs)) hs fun _ hs => ⟨rfl, hs⟩
  · exact obgy [3, 5] [] [5] (!(rightS p)) rfl (fun _ => rfl) rfl (fun _ _ _ _ h => h) (fun hG => ⟨hG, trivial⟩) fun D ρ w hG hs => L_not rfl ⟨rfl, hs⟩
  · exact ob [3, 6] [] rfl rfl fun D ρ w hs => L_orC (h' := !(rightS q)) rfl rfl rfl ⟨rfl, hs⟩
  rintro ρ1 w9 ρ2 hρ hs
  replace hρ : ρ2 = upd (mix [19, 20, 21, 22, 23, 24, 25, 26] ρ1 _) 26 (.bool ((!(rightS p)) || (!(rightS q)))) := hρ
  subst hρ
  refine W_cond (t := (!(rightS p)) || (!(rightS q))) rfl (fun c10 => ?_) (fun c10 => ?_)
  ·
    refine W_seq ?_
    refine W_region ?_
    refine RW_op (L_buildP (vs := []) (cs := (vc vzero) ++ [(.slice none 0 0 : Value), (.slice none 0 0 : Value) ]) [vc vzero, [(.slice none 0 0 : Value)], [(.slice none 0 0 : Value)]] [vc vzero, [(.slice none 0 0 : Value)], [(.slice none 0 0 : Value)]] BT_62 rfl (rfl) rfl rfl ?_)
    refine RW_op (L_st (V := .agg ((vc vzero) ++ [(.slice none 0 0 : Value), (.slice none 0 0 : Value) ]).toArray) (vs := (vc vzero) ++ [(.slice none 0 0 : Value), (.slice none 0 0 : Value) ]) (cs' := (vc vzero) ++ [(.slice none 0 0 : Value), (.slice none 0 0 : Value) ]) SA_62.1 hs 2 rfl rfl rfl rfl rfl (Nat.le_of_ble_eq_true rfl) (one_app (vc_one _) (one_cons rfl (one_cons rfl one_nil))) (spl_whole rfl) fun w11 hs => ?_)
    replace hs : Own w no w11 [blk b1 ((vc p.known) ++ [(.slice a1p p.ents.length c1p : Value), (.slice a2p p.ticks.length c2p : Value) ]) 62, blk b3 ((vc q.known) ++ [(.slice a1q q.ents.length c1q : Value), (.slice a2q q.ticks.length c2q : Value) ]) 62, blk b5 ((vc vzero) ++ [(.slice none 0 0 : Value), (.slice none 0 0 : Value) ]) 62] := hs
    refine RW_op (L_assign (V := .int .i64 2) rfl ?_)
    refine RW_nil ?_
    refine W_ret ?_
    refine ⟨_, res_cell2 (cs := (vc vzero) ++ [(.slice none 0 0 : Value), (.slice none 0 0 : Value) ]) (V := .int .i64 2) Try.results28 SA_62 hs 2 rfl rfl rfl rfl, ?_⟩
    obtain ⟨hI, hR⟩ := mergeR_no (a := p) (b := q) (by have hz := c10; revert hz; cases rightS p <;> cases rightS q <;> decide)
    rw [hI, hR]
    exact ⟨((none, 0), (none, 0)), rfl, ((hs.take 0).more _ (row_nil _ _ 128 7)).more _ (row_nil _ _ 126 2), trivial⟩
  ·
    have c10r := or_r c10
    replace c10 := or_l c10
    replace c10 := not_f c10
    replace c10r := not_f c10r
    refine W_skip ?_
    refine W_seq ?_
    have hra := rightS_iff.1 c10
    have hrb := rightS_iff.1 c10r
    replace hs := hs.more emp trivial
    replace hs := hs.more emp trivial
    refine W_regD HM [some 28, some 29, some 30, some 31, some 6, some 7] [[], [29], [], [31], [29], [31]] [0, 1, 0, 7, 15, 31] [pv (.agg ((vc p.known) ++ [(.slice a1p p.ents.length c1p : Value), (.slice a2p p.ticks.length c2p : Value) ]).toArray), (true, fun ρ => .map (some (mOf (ρ 29)))), pv (.agg ((vc q.known) ++ [(.slice a1q q.ents.length c1q : Value), (.slice a2q q.ticks.length c2q : Value) ]).toArray), (true, fun ρ => .map (some (mOf (ρ 31)))), (true, fun ρ => .map (some (mOf (ρ 29)))), (true, fun ρ => .map (some (mOf (ρ 31))))] (fun D ρ => [blk b1 ((vc p.known) ++ [(.slice a1p p.ents.length c1p : Value), (.slice a2p p.ticks.length c2p : Value) ]) 62, blk b3 ((vc q.known) ++ [(.slice a1q q.ents.length c1q : Value), (.slice a2q q.ticks.length c2q : Value) ]) 62, blk b5 ((vc vzero) ++ [(.slice none 0 0 : Value), (.slice none 0 0 : Value) ]) 62, cond (D 1) (mapR (mOf (ρ 29)) dv cv (dotsM p.ents)) (emp), cond (D 3) (mapR (mOf (ρ 31)) dv cv (dotsM q.ents)) (emp)]) [5, 4] (by kernel_rfl) hs ⟨?_, ?_, ?_, ?_, ?_, ?_, trivial⟩ ?_
    · exact ob [] [] rfl rfl fun D ρ w hs => L_ldW (cs := (vc p.known) ++ [(.slice a1p p.ents.length c1p : Value), (.slice a2p p.ticks.length c2p : Value) ]) SA_62 hs 0 rfl rfl rfl ⟨rfl, hs⟩
    · exact ob [0] [] rfl rfl fun D ρ w hs => L_callX (α := Nat) (vs := [.agg ((vc p.known) ++ [(.slice a1p p.ents.length c1p : Value), (.slice a2p p.ticks.length c2p : Value) ]).toArray]) (V := fun x => .map (some x)) EN_59 rfl rfl (sDots_ok _ p a1p c1p a2p c2p (Rd.own' hr1p hs) (Rd.own' hr2p hs)) hs fun _ _ hs _ => ⟨rfl, hs.put 3 (Nat.le_of_ble_eq_true rfl)⟩
    · exact ob [] [] rfl rfl fun D ρ w hs => L_ldW (cs := (vc q.known) ++ [(.slice a1q q.ents.length c1q : Value), (.slice a2q q.ticks.length c2q : Value) ]) SA_62 hs 1 rfl rfl rfl ⟨rfl, hs⟩
    · exact ob [2] [] rfl rfl fun D ρ w hs => L_callX (α := Nat) (vs := [.agg ((vc q.known) ++ [(.slice a1q q.ents.length c1q : Value), (.slice a2q q.ticks.length c2q : Value) ]).toArray]) (V := fun x => .map (some x)) EN_59 rfl rfl (sDots_ok _ q a1q c1q a2q c2q (Rd.own' hr1q hs) (Rd.own' hr2q hs)) hs fun _ _ hs _ => ⟨rfl, hs.put 4 (Nat.le_of_ble_eq_true rfl)⟩
    · exact ob [1] [] rfl rfl fun D ρ w hs => L_assign (V := .map (some (mOf (ρ 29)))) rfl ⟨rfl, hs⟩
    · exact ob [3] [] rfl rfl fun D ρ w hs => L_assign (V := .map (some (mOf (ρ 31)))) rfl ⟨rfl, hs⟩
    rintro ρ1 w14 ρ2 hρ hs
    replace hρ : ρ2 = upd (upd (mix [28, 29, 30, 31, 6, 7] ρ1 _) 6 (.map (some (mOf (ρ1 29))))) 7 (.map (some (mOf (ρ1 31)))) := hρ
    replace hs : Own w no w14 [blk b1 ((vc p.known) ++ [(.slice a1p p.ents.length c1p : Value), (.slice a2p p.ticks.length c2p : Value) ]) 62, blk b3 ((vc q.known) ++ [(.slice a1q q.ents.length c1q : Value), (.slice a2q q.ticks.length c2q : Value) ]) 62, blk b5 ((vc vzero) ++ [(.slice none 0 0 : Value), (.slice none 0 0 : Value) ]) 62, mapR (mOf (ρ1 29)) dv cv (dotsM p.ents), mapR (mOf (ρ1 31)) dv cv (dotsM q.ents)] := hs
    generalize (mOf (ρ1 29)) = r15 at hρ hs
    generalize (mOf (ρ1 31)) = r16 at hρ hs
    subst hρ
    refine W_seq ?_
    replace hs := hs.more emp trivial
    replace hs := hs.more emp trivial
    refine W_regD HM [some 32, some 33, some 34, some 35, some 36, some 37, some 38, some 39, some 40, some 8, none] [[], [], [], [], [], [], [], [39], [39], [8]] [0, 1, 0, 4, 15, 0, 32, 127, 255, 0, 1023] [pv (.pointer (some ⟨b1, 0 + 0, none⟩)), pv (.agg (vc p.known).toArray), pv (.pointer (some ⟨b3, 0 + 0, none⟩)), pv (.agg (vc q.known).toArray), pv (.agg (vc (vjoin p.known q.known)).toArray), pv (.pointer (some ⟨b1, 0 + 17, none⟩)), pv (.slice a2p p.ticks.length c2p), (true, fun ρ => .slice (aOf (ρ 39)) ((p.ticks).length) (cOf (ρ 39))), (true, fun ρ => .agg ((vc (vjoin p.known q.known)) ++ [(.slice none 0 0 : Value), (.slice (aOf (ρ 39)) ((p.ticks).length) (cOf (ρ 39)) : Value) ]).toArray), (true, fun ρ => .pointer (some ⟨(bOf (ρ 8)), 0, none⟩)), pn] (fun D ρ => [blk b1 ((vc p.known) ++ [(.slice a1p p.ents.length c1p : Value), (.slice a2p p.ticks.length c2p : Value) ]) 62, blk b3 ((vc q.known) ++ [(.slice a1q q.ents.length c1q : Value), (.slice a2q q.ticks.length c2q : Value) ]) 62, blk b5 ((vc vzero) ++ [(.slice none 0 0 : Value), (.slice none 0 0 : Value) ]) 62, mapR r15 dv cv (dotsM p.ents), mapR r16 dv cv (dotsM q.ents), cond (D 7) (row (.slice (aOf (ρ 39)) ((p.ticks).length) (cOf (ρ 39))) (p.ticks.map lsc) 126 2) (emp), cond (D 10) (blk (bOf (ρ 8)) ((vc (vjoin p.known q.known)) ++ [(.slice none 0 0 : Value), (.slice (aOf (ρ 39)) ((p.ticks).length) (cOf (ρ 39)) : Value) ]) 62) (cond (D 9) (blk (bOf (ρ 8)) ((vc vzero) ++ [(.slice none 0 0 : Value), (.slice none 0 0 : Value) ]) 62) (emp))]) [9] (by kernel_rfl) hs ⟨?_, ?_, ?_, ?_, ?_, ?_, ?_, ?_, ?_, ?_, ?_, trivial⟩ ?_
    · exact ob [] [] rfl rfl fun D ρ w hs => L_fieldAddr FA_62_0 rfl ⟨rfl, hs⟩
    · exact ob [0] [] rfl rfl fun D ρ w hs => L_ldA (vs := vc p.known) SA_53 hs 0 rfl rfl rfl rfl ⟨rfl, hs⟩
    · exact ob [] [] rfl rfl fun D ρ w hs => L_fieldAddr FA_62_0 rfl ⟨rfl, hs⟩
    · exact ob [2] [] rfl rfl fun D ρ w hs => L_ldA (vs := vc q.known) SA_53 hs 1 rfl rfl rfl rfl ⟨rfl, hs⟩
    · exact ob [1, 3] [] rfl rfl fun D ρ w hs => L_callP (vs := [.agg (vc p.known).toArray, .agg (vc q.known).toArray]) (V := .agg (vc (vjoin p.known q.known)).toArray) EN_60 rfl rfl (vJoin_ok _ p.known q.known) hs fun _ hs => ⟨rfl, hs⟩
    · exact ob [] [] rfl rfl fun D ρ w hs => L_fieldAddr FA_62_2 rfl ⟨rfl, hs⟩
    · exact ob [5] [] rfl rfl fun D ρ w hs => L_ld (V := .slice a2p p.ticks.length c2p) S1_60 hs 0 rfl rfl rfl ⟨rfl, hs⟩
    · exact ob [6] [10] rfl rfl fun D ρ w hs => L_callX (vs := [.slice a2p p.ticks.length c2p]) (V := fun x : Option Addr × Nat => .slice x.1 (p.ticks).length x.2) EN_61 rfl rfl (cln126_ok _ a2p c2p p.ticks (by omega) (Rd.own' hr2p hs)) hs fun _ _ hs _ => ⟨rfl, hs.put 5 (Nat.le_of_ble_eq_true rfl)⟩
    · exact ob [4, 7] [] rfl rfl fun D ρ w hs => L_buildP (vs := [(0, .agg (vc (vjoin p.known q.known)).toArray), (2, .slice (aOf (ρ 39)) ((p.ticks).length) (cOf (ρ 39)))]) (cs := (vc (vjoin p.known q.known)) ++ [(.slice none 0 0 : Value), (.slice (aOf (ρ 39)) ((p.ticks).length) (cOf (ρ 39)) : Value) ]) [vc vzero, [(.slice none 0 0 : Value)], [(.slice none 0 0 : Value)]] [vc (vjoin p.known q.known), [(.slice none 0 0 : Value)], [(.slice (aOf (ρ 39)) ((p.ticks).length) (cOf (ρ 39)) : Value)]] BT_62 rfl (rfl) rfl rfl ⟨rfl, hs⟩
    · exact ob [] [10] rfl rfl fun D ρ w hs => L_alloc (cs := (vc vzero) ++ [(.slice none 0 0 : Value), (.slice none 0 0 : Value) ]) ZV_62 rfl hs fun _ _ hs => ⟨rfl, hs.put 6 (Nat.le_of_ble_eq_true rfl)⟩
    · exact ob [8, 9] [] rfl rfl fun D ρ w hs => L_st (V := .agg ((vc (vjoin p.known q.known)) ++ [(.slice none 0 0 : Value), (.slice (aOf (ρ 39)) ((p.ticks).length) (cOf (ρ 39)) : Value) ]).toArray) (vs := (vc (vjoin p.known q.known)) ++ [(.slice none 0 0 : Value), (.slice (aOf (ρ 39)) ((p.ticks).length) (cOf (ρ 39)) : Value) ]) (cs' := (vc (vjoin p.known q.known)) ++ [(.slice none 0 0 : Value), (.slice (aOf (ρ 39)) ((p.ticks).length) (cOf (ρ 39)) : Value) ]) SA_62.1 hs 6 rfl rfl rfl rfl rfl (Nat.le_of_ble_eq_true rfl) (one_app (vc_one _) (one_cons rfl (one_cons rfl one_nil))) (spl_whole rfl) fun _ hs => ⟨trivial, hs⟩
    rintro ρ1 w21 ρ2 hρ hs
    replace hρ : ρ2 = upd (mix [32, 33, 34, 35, 36, 37, 38, 39, 40, 8] ρ1 _) 8 (.pointer (some ⟨(bOf (ρ1 8)), 0, none⟩)) := hρ
    replace hs : Own w no w21 [blk b1 ((vc p.known) ++ [(.slice a1p p.ents.length c1p : Value), (.slice a2p p.ticks.length c2p : Value) ]) 62, blk b3 ((vc q.known) ++ [(.slice a1q q.ents.length c1q : Value), (.slice a2q q.ticks.length c2q : Value) ]) 62, blk b5 ((vc vzero) ++ [(.slice none 0 0 : Value), (.slice none 0 0 : Value) ]) 62, mapR r15 dv cv (dotsM p.ents), mapR r16 dv cv (dotsM q.ents), row (.slice (aOf (ρ1 39)) ((p.ticks).length) (cOf (ρ1 39))) (p.ticks.map lsc) 126 2, blk (bOf (ρ1 8)) ((vc (vjoin p.known q.known)) ++ [(.slice none 0 0 : Value), (.slice (aOf (ρ1 39)) ((p.ticks).length) (cOf (ρ1 39)) : Value) ]) 62] := hs
    generalize (aOf (ρ1 39)) = a22 at hs
    generalize (cOf (ρ1 39)) = c23 at hs
    generalize (bOf (ρ1 8)) = b24 at hρ hs
    subst hρ
    refine W_seq ?_
    refine W_seq ?_
    refine W_region ?_
    refine RW_op (L_fieldAddr FA_62_1 rfl ?_)
    refine RW_op (L_ld (V := .slice a1p p.ents.length c1p) S1_59 hs 0 rfl rfl rfl ?_)
    refine RW_op (L_lenR (n := p.ents.length) UD_59 (Rd.own' hr1p hs) (by simp) rfl ?_)
    refine RW_op (L_move (V := .int .i64 0) rfl ?_)
    refine RW_nil ?_
    refine W_block ?_
    replace hs := hs.more (row (.slice none 0 0) (List.map cec []) 128 7) (row_nil _ _ _ _)
    refine W_loopI (fun ρ μ ρ' w' => ∃ (ρo : Env) (k : Nat) (a9 : Option Addr) (c9 : Nat) (L9 : List Cen), ρ' = upd (mix [5, 10, 11, 12, 44, 45, 46, 47, 48, 49, 50, 51, 52, 53, 54, 55, 56, 57, 58, 59, 60, 61, 62, 63, 64, 65, 66, 67, 68, 69, 70, 71, 72, 73, 74, 75, 76, 77] ρo ρ) 44 (.int .i64 ((k : Nat) : Int)) ∧ (k ≤ p.ents.length) ∧ (L9 = (p.ents.take k).filter (keepA q)) ∧ (L9.length ≤ k) ∧ (∀ j : Nat, j < k → confB q (gd p.ents j) = false) ∧ μ = p.ents.length - k ∧ Own w no w' [blk b1 ((vc p.known) ++ [(.slice a1p p.ents.length c1p : Value), (.slice a2p p.ticks.length c2p : Value) ]) 62, blk b3 ((vc q.known) ++ [(.slice a1q q.ents.length c1q : Value), (.slice a2q q.ticks.length c2q : Value) ]) 62, blk b5 ((vc vzero) ++ [(.slice none 0 0 : Value), (.slice none 0 0 : Value) ]) 62, mapR r15 dv cv (dotsM p.ents), mapR r16 dv cv (dotsM q.ents), row (.slice a22 ((p.ticks).length) c23) (p.ticks.map lsc) 126 2, blk b24 ((vc (vjoin p.known q.known)) ++ [(.slice a9 L9.length c9 : Value), (.slice a22 ((p.ticks).length) c23 : Value) ]) 62, row (.slice a9 L9.length c9) (L9.map cec) 128 7]) ?_ ?_
    · exact ⟨_, _, 0, none, 0, [], upd_of (mix_of (ds := [5, 10, 11, 12, 44, 45, 46, 47, 48, 49, 50, 51, 52, 53, 54, 55, 56, 57, 58, 59, 60, 61, 62, 63, 64, 65, 66, 67, 68, 69, 70, 71, 72, 73, 74, 75, 76, 77]) (Agr.refl _ _)) rfl, (by omega), rfl, (Nat.le_refl _), (fun j hj => absurd hj (Nat.not_lt_zero j)), rfl, hs⟩
    · rintro μ ρ' w25 ⟨ρo, k, a9, c9, L9, rfl, hk, hL9, hl9, hcf, rfl, hs⟩
      refine W_seq ?_
      refine W_region ?_
      refine RW_op (L_lss rfl rfl ?_)
      refine RW_nil ?_
      refine W_seq ?_
      refine W_cond (t := decide (((k : Nat) : Int) < ((p.ents.length : Nat) : Int))) rfl (fun c26 => ?_) (fun c26 => ?_)
      ·
        replace c26 := of_decide_eq_true c26
        refine W_skip ?_
        refine W_seq ?_
        refine W_block ?_
        refine W_seq ?_
        refine W_region ?_
        refine RW_op (L_ixR UD_59 SA_128.1 (Rd.own' hr1p hs) rfl rfl (by omega) (by rw [List.length_map]; omega) ?_)
        refine RW_op (L_ldRA (j := 0) (vs := cec (gd p.ents k)) k SA_128 (Rd.own' hr1p hs) (gd_at (by omega)) rfl rfl rfl (by omega) ?_)
        refine RW_op (L_alloc (cs := cec (⟨0, 0, 0, 0, (⟨0, 0⟩ : Dot), 0⟩ : Cen)) ZV_128 rfl hs fun b27 w28 hs => ?_)
        replace hs : Own w no w28 [blk b1 ((vc p.known) ++ [(.slice a1p p.ents.length c1p : Value), (.slice a2p p.ticks.length c2p : Value) ]) 62, blk b3 ((vc q.known) ++ [(.slice a1q q.ents.length c1q : Value), (.slice a2q q.ticks.length c2q : Value) ]) 62, blk b5 ((vc vzero) ++ [(.slice none 0 0 : Value), (.slice none 0 0 : Value) ]) 62, mapR r15 dv cv (dotsM p.ents), mapR r16 dv cv (dotsM q.ents), row (.slice a22 ((p.ticks).length) c23) (p.ticks.map lsc) 126 2, blk b24 ((vc (vjoin p.known q.known)) ++ [(.slice a9 L9.length c9 : Value), (.slice a22 ((p.ticks).length) c23 : Value) ]) 62, row (.slice a9 L9.length c9) (L9.map cec) 128 7, blk b27 (cec (⟨0, 0, 0, 0, (⟨0, 0⟩ : Dot), 0⟩ : Cen)) 128] := hs
        refine RW_op (L_st (V := .agg (cec (gd p.ents k)).toArray) (vs := cec (gd p.ents k)) (cs' := cec (gd p.ents k)) SA_128.1 hs 8 rfl rfl rfl rfl rfl (Nat.le_of_ble_eq_true rfl) (cec_one _) (spl_whole rfl) fun w29 hs => ?_)
        refine RW_nil ?_
        refine W_seq ?_
        have hce := (hpE _ (gd_mem (l := p.ents) (i := k) (by omega))).2.2.2.2.1
        refine W_region ?_
        refine RW_op (L_move (V := .map (some r16)) rfl ?_)
        refine RW_op (L_fieldAddr FA_128_4 rfl ?_)
        refine RW_op (L_ldA (vs := dc ((gd p.ents k).dot)) SA_96 hs 8 rfl rfl rfl rfl ?_)
        refine RW_op (L_lookupOkV (k := (gd p.ents k).dot) (z := cz) UD_122 KO_96 ZV_128 (hs.mapf 4 rfl) rfl rfl ?_)
        refine RW_op (L_move (V := .tuple #[.agg (cec ((mget ((gd p.ents k).dot) (dotsM q.ents)).getD cz)).toArray, .bool ((mget ((gd p.ents k).dot) (dotsM q.ents)).isSome)]) rfl ?_)
        refine RW_op (L_extract (V := .agg (cec ((mget ((gd p.ents k).dot) (dotsM q.ents)).getD cz)).toArray) rfl rfl ?_)
        refine RW_op (L_extract (V := .bool ((mget ((gd p.ents k).dot) (dotsM q.ents)).isSome)) rfl rfl ?_)
        refine RW_op (L_alloc (cs := cec (⟨0, 0, 0, 0, (⟨0, 0⟩ : Dot), 0⟩ : Cen)) ZV_128 rfl hs fun b30 w31 hs => ?_)
        refine RW_op (L_st (V := .agg (cec ((mget ((gd p.ents k).dot) (dotsM q.ents)).getD cz)).toArray) (vs := cec ((mget ((gd p.ents k).dot) (dotsM q.ents)).getD cz)) (cs' := cec ((mget ((gd p.ents k).dot) (dotsM q.ents)).getD cz)) SA_128.1 hs 9 rfl rfl rfl rfl rfl (Nat.le_of_ble_eq_true rfl) (cec_one _) (spl_whole rfl) fun w32 hs => ?_)
        refine RW_op (L_assign (V := .bool ((mget ((gd p.ents k).dot) (dotsM q.ents)).isSome)) rfl ?_)
        refine RW_nil ?_
        refine W_seq ?_
        refine W_seq ?_
        refine W_regO [some 55, some 56, some 57, some 58, some 59, some 60] [] [0, 1, 3, 3, 15, 31] [pv (.bool ((mget ((gd p.ents k).dot) (dotsM q.ents)).isSome)), pv (.bool ((mget ((gd p.ents k).dot) (dotsM q.ents)).isSome)), pg (((mget ((gd p.ents k).dot) (dotsM q.ents)).isSome) == true) (.agg (cec ((mget ((gd p.ents k).dot) (dotsM q.ents)).getD cz)).toArray), pg (((mget ((gd p.ents k).dot) (dotsM q.ents)).isSome) == true) (.agg (cec (gd p.ents k)).toArray), pg (((mget ((gd p.ents k).dot) (dotsM q.ents)).isSome) == true) (.bool (!decide ((mget ((gd p.ents k).dot) (dotsM q.ents)).getD cz = gd p.ents k))), pv (.bool (confB q (gd p.ents k)))] (fun _ _ => _) [5] (by kernel_rfl) hs ⟨?_, ?_, ?_, ?_, ?_, ?_, trivial⟩ ?_
        · exact ob [] [] rfl rfl fun D ρ w hs => L_move (V := .bool ((mget ((gd p.ents k).dot) (dotsM q.ents)).isSome)) rfl ⟨rfl, hs⟩
        · exact ob [0] [] rfl rfl fun D ρ w hs => L_move (V := .bool ((mget ((gd p.ents k).dot) (dotsM q.ents)).isSome)) rfl ⟨rfl, hs⟩
        · exact obg [1] [] ((mget ((gd p.ents k).dot) (dotsM q.ents)).isSome) rfl (fun _ => rfl) rfl (fun _ _ _ _ h => h) fun D ρ w hG hs => L_ldW (cs := cec ((mget ((gd p.ents k).dot) (dotsM q.ents)).getD cz)) SA_128 hs 9 rfl rfl rfl ⟨rfl, hs⟩
        · exact obg [1] [] ((mget ((gd p.ents k).dot) (dotsM q.ents)).isSome) rfl (fun _ => rfl) rfl (fun _ _ _ _ h => h) fun D ρ w hG hs => L_ldW (cs := cec (gd p.ents k)) SA_128 hs 8 rfl rfl rfl ⟨rfl, hs⟩
        · exact obgy [1, 2, 3] [] [2, 3] ((mget ((gd p.ents k).dot) (dotsM q.ents)).isSome) rfl (fun _ => rfl) rfl (fun _ _ _ _ h => h) (fun hG => ⟨hG, hG, trivial⟩) fun D ρ w hG hs => L_neA (xs := cec ((mget ((gd p.ents k).dot) (dotsM q.ents)).getD cz)) (ys := cec (gd p.ents k)) Try.eqGuardType128 (EQ_128 ((mget ((gd p.ents k).dot) (dotsM q.ents)).getD cz) (gd p.ents k)) rfl rfl rfl ⟨rfl, hs⟩
        · exact ob [1, 4] [] rfl rfl fun D ρ w hs => opW_to (V := .bool (((mget ((gd p.ents k).dot) (dotsM q.ents)).isSome) && (!decide ((mget ((gd p.ents k).dot) (dotsM q.ents)).getD cz = gd p.ents k)))) (V' := .bool (confB q (gd p.ents k))) (L_andC (h' := !decide ((mget ((gd p.ents k).dot) (dotsM q.ents)).getD cz = gd p.ents k)) rfl rfl rfl ⟨rfl, rfl⟩) (congrArg Value.bool (conf_get hrb.nd _)) ⟨rfl, hs⟩
        rintro ρ1 w33 ρ2 hρ hs
        replace hρ : ρ2 = upd (mix [55, 56, 57, 58, 59, 60] ρ1 _) 60 (.bool (confB q (gd p.ents k))) := hρ
        subst hρ
        refine W_cond (t := confB q (gd p.ents k)) rfl (fun c34 => ?_) (fun c34 => ?_)
        ·
          refine W_seq ?_
          refine W_region ?_
          refine RW_op (L_buildP (vs := []) (cs := (vc vzero) ++ [(.slice none 0 0 : Value), (.slice none 0 0 : Value) ]) [vc vzero, [(.slice none 0 0 : Value)], [(.slice none 0 0 : Value)]] [vc vzero, [(.slice none 0 0 : Value)], [(.slice none 0 0 : Value)]] BT_62 rfl (rfl) rfl rfl ?_)
          refine RW_op (L_st (V := .agg ((vc vzero) ++ [(.slice none 0 0 : Value), (.slice none 0 0 : Value) ]).toArray) (vs := (vc vzero) ++ [(.slice none 0 0 : Value), (.slice none 0 0 : Value) ]) (cs' := (vc vzero) ++ [(.slice none 0 0 : Value), (.slice none 0 0 : Value) ]) SA_62.1 hs 2 rfl rfl rfl rfl rfl (Nat.le_of_ble_eq_true rfl) (one_app (vc_one _) (one_cons rfl (one_cons rfl one_nil))) (spl_whole rfl) fun w35 hs => ?_)
          replace hs : Own w no w35 [blk b1 ((vc p.known) ++ [(.slice a1p p.ents.length c1p : Value), (.slice a2p p.ticks.length c2p : Value) ]) 62, blk b3 ((vc q.known) ++ [(.slice a1q q.ents.length c1q : Value), (.slice a2q q.ticks.length c2q : Value) ]) 62, blk b5 ((vc vzero) ++ [(.slice none 0 0 : Value), (.slice none 0 0 : Value) ]) 62, mapR r15 dv cv (dotsM p.ents), mapR r16 dv cv (dotsM q.ents), row (.slice a22 ((p.ticks).length) c23) (p.ticks.map lsc) 126 2, blk b24 ((vc (vjoin p.known q.known)) ++ [(.slice a9 L9.length c9 : Value), (.slice a22 ((p.ticks).length) c23 : Value) ]) 62, row (.slice a9 L9.length c9) (L9.map cec) 128 7, blk b27 (cec (gd p.ents k)) 128, blk b30 (cec ((mget ((gd p.ents k).dot) (dotsM q.ents)).getD cz)) 128] := hs
          refine RW_op (L_assign (V := .int .i64 5) rfl ?_)
          refine RW_nil ?_
          refine W_ret ?_
          refine ⟨_, res_cell2 (cs := (vc vzero) ++ [(.slice none 0 0 : Value), (.slice none 0 0 : Value) ]) (V := .int .i64 5) Try.results28 SA_62 hs 2 rfl rfl rfl rfl, ?_⟩
          obtain ⟨hI, hR⟩ := mergeR_conf c10 c10r (conf_some (k := k) (by omega) c34)
          rw [hI, hR]
          exact ⟨((none, 0), (none, 0)), rfl, ((hs.take 0).more _ (row_nil _ _ 128 7)).more _ (row_nil _ _ 126 2), trivial⟩
        ·
          refine W_skip ?_
          refine W_seq ?_
          refine W_regO [some 62, some 63, some 64, some 65, some 66, some 67, some 68, some 69, some 70] [] [0, 1, 3, 7, 3, 19, 63, 127, 255] [pv (.bool ((mget ((gd p.ents k).dot) (dotsM q.ents)).isSome)), pv (.bool ((mget ((gd p.ents k).dot) (dotsM q.ents)).isSome)), pg (((mget ((gd p.ents k).dot) (dotsM q.ents)).isSome) == false) (.pointer (some ⟨b3, 0 + 0, none⟩)), pg (((mget ((gd p.ents k).dot) (dotsM q.ents)).isSome) == false) (.agg (vc q.known).toArray), pg (((mget ((gd p.ents k).dot) (dotsM q.ents)).isSome) == false) (.pointer (some ⟨b27, 0 + 4, none⟩)), pg (((mget ((gd p.ents k).dot) (dotsM q.ents)).isSome) == false) (.agg (dc ((gd p.ents k).dot)).toArray), pg (((mget ((gd p.ents k).dot) (dotsM q.ents)).isSome) == false) (.bool (hasB q.known ((gd p.ents k).dot))), pg (((mget ((gd p.ents k).dot) (dotsM q.ents)).isSome) == false) (.bool (!(hasB q.known ((gd p.ents k).dot)))), pv (.bool (keepA q (gd p.ents k)))] (fun _ _ => _) [8] (by kernel_rfl) hs ⟨?_, ?_, ?_, ?_, ?_, ?_, ?_, ?_, ?_, trivial⟩ ?_
          · exact ob [] [] rfl rfl fun D ρ w hs => L_move (V := .bool ((mget ((gd p.ents k).dot) (dotsM q.ents)).isSome)) rfl ⟨rfl, hs⟩
          · exact ob [0] [] rfl rfl fun D ρ w hs => L_move (V := .bool ((mget ((gd p.ents k).dot) (dotsM q.ents)).isSome)) rfl ⟨rfl, hs⟩
          · exact obg [1] [] ((mget ((gd p.ents k).dot) (dotsM q.ents)).isSome) rfl (fun _ => rfl) rfl (fun _ _ _ _ h => h) fun D ρ w hG hs => L_fieldAddr FA_62_0 rfl ⟨rfl, hs⟩
          · exact obgy [1, 2] [] [2] ((mget ((gd p.ents k).dot) (dotsM q.ents)).isSome) rfl (fun _ => rfl) rfl (fun _ _ _ _ h => h) (fun hG => ⟨hG, trivial⟩) fun D ρ w hG hs => L_ldA (vs := vc q.known) SA_53 hs 1 rfl rfl rfl rfl ⟨rfl, hs⟩
          · exact obg [1] [] ((mget ((gd p.ents k).dot) (dotsM q.ents)).isSome) rfl (fun _ => rfl) rfl (fun _ _ _ _ h => h) fun D ρ w hG hs => L_fieldAddr FA_128_4 rfl ⟨rfl, hs⟩
          · exact obgy [1, 4] [] [4] ((mget ((gd p.ents k).dot) (dotsM q.ents)).isSome) rfl (fun _ => rfl) rfl (fun _ _ _ _ h => h) (fun hG => ⟨hG, trivial⟩) fun D ρ w hG hs => L_ldA (vs := dc ((gd p.ents k).dot)) SA_96 hs 8 rfl rfl rfl rfl ⟨rfl, hs⟩
          · exact obgy [1, 3, 5] [] [3, 5] ((mget ((gd p.ents k).dot) (dotsM q.ents)).isSome) rfl (fun _ => rfl) rfl (fun _ _ _ _ h => h) (fun hG => ⟨hG, hG, trivial⟩) fun D ρ w hG hs => L_callP (vs := [.agg (vc q.known).toArray, .agg (dc ((gd p.ents k).dot)).toArray]) (V := .bool (hasB q.known ((gd p.ents k).dot))) EN_62 rfl rfl (vHas_ok _ q.known ((gd p.ents k).dot) (by first | assumption | exact dotOk_mk (by omega) (by omega) (by omega) (by omega))) hs fun _ hs => ⟨rfl, hs⟩
          · exact obgy [1, 6] [] [6] ((mget ((gd p.ents k).dot) (dotsM q.ents)).isSome) rfl (fun _ => rfl) rfl (fun _ _ _ _ h => h) (fun hG => ⟨hG, trivial⟩) fun D ρ w hG hs => L_not rfl ⟨rfl, hs⟩
          · exact ob [1, 7] [] rfl rfl fun D ρ w hs => opW_to (V := .bool (((mget ((gd p.ents k).dot) (dotsM q.ents)).isSome) || (!(hasB q.known ((gd p.ents k).dot))))) (V' := .bool (keepA q (gd p.ents k))) (L_orC (h' := !(hasB q.known ((gd p.ents k).dot))) rfl rfl rfl ⟨rfl, rfl⟩) (congrArg Value.bool (keepA_get _ _)) ⟨rfl, hs⟩
          rintro ρ1 w37 ρ2 hρ hs
          replace hρ : ρ2 = upd (mix [62, 63, 64, 65, 66, 67, 68, 69, 70] ρ1 _) 70 (.bool (keepA q (gd p.ents k))) := hρ
          subst hρ
          refine W_cond (t := keepA q (gd p.ents k)) rfl (fun c38 => ?_) (fun c38 => ?_)
          ·
            refine W_region ?_
            refine RW_op (L_fieldAddr FA_62_1 rfl ?_)
            refine RW_op (L_ld (V := .slice a9 L9.length c9) S1_59 hs 6 rfl rfl rfl ?_)
            refine RW_op (L_ldW (cs := cec (gd p.ents k)) SA_128 hs 8 rfl rfl rfl ?_)
            refine RW_op (L_bs (vals := [.agg (cec (gd p.ents k)).toArray]) (ls := List.map cec ([gd p.ents k] : List Cen)) EL_59 rfl rfl rfl (len_map (enc := cec) (fun _ => rfl) _) (one_map cec_one _) (Nat.le_of_ble_eq_true rfl) hs fun b39 w40 hs => ?_)
            replace hs : Own w no w40 [blk b1 ((vc p.known) ++ [(.slice a1p p.ents.length c1p : Value), (.slice a2p p.ticks.length c2p : Value) ]) 62, blk b3 ((vc q.known) ++ [(.slice a1q q.ents.length c1q : Value), (.slice a2q q.ticks.length c2q : Value) ]) 62, blk b5 ((vc vzero) ++ [(.slice none 0 0 : Value), (.slice none 0 0 : Value) ]) 62, mapR r15 dv cv (dotsM p.ents), mapR r16 dv cv (dotsM q.ents), row (.slice a22 ((p.ticks).length) c23) (p.ticks.map lsc) 126 2, blk b24 ((vc (vjoin p.known q.known)) ++ [(.slice a9 L9.length c9 : Value), (.slice a22 ((p.ticks).length) c23 : Value) ]) 62, row (.slice a9 L9.length c9) (L9.map cec) 128 7, blk b27 (cec (gd p.ents k)) 128, blk b30 (cec ((mget ((gd p.ents k).dot) (dotsM q.ents)).getD cz)) 128, row (.slice (some ⟨b39, 0, none⟩) 1 1) ([gd p.ents k].map cec) 128 7] := hs
            refine RW_op (L_appN (ls' := (L9 ++ [gd p.ents k]).map cec) (n := (L9 ++ [gd p.ents k]).length) EL_59 hs 7 rfl rfl rfl (hs.rd 10 rfl) (one_map cec_one _) (by simp only [List.length_map, List.length_append, List.length_cons, List.length_nil]; omega) (by simp) (by simp) fun a41 c41 w42 hs => ?_)
            refine RW_op (L_fieldAddr FA_62_1 rfl ?_)
            refine RW_op (L_st1 (V := .slice a41 ((L9 ++ [gd p.ents k]).length) c41) (cs' := (vc (vjoin p.known q.known)) ++ [(.slice a41 ((L9 ++ [gd p.ents k]).length) c41 : Value), (.slice a22 ((p.ticks).length) c23 : Value) ]) S1_59 hs 6 rfl rfl rfl rfl (Nat.le_of_ble_eq_true rfl) rfl fun w43 hs => ?_)
            refine RW_nil ?_
            refine W_region ?_
            refine RW_op (L_add (a := ((k : Nat) : Int)) (b := 1) (c := ((k + 1 : Nat) : Int)) rfl rfl (nat_i64 (by omega) (by omega)) ?_)
            refine RW_op (L_move (V := .int .i64 ((k + 1 : Nat) : Int)) rfl ?_)
            refine RW_nil ?_
            refine ⟨_, ?_, _, k + 1, a41, c41, L9 ++ [gd p.ents k], upd_of (mix_of (ds := [5, 10, 11, 12, 44, 45, 46, 47, 48, 49, 50, 51, 52, 53, 54, 55, 56, 57, 58, 59, 60, 61, 62, 63, 64, 65, 66, 67, 68, 69, 70, 71, 72, 73, 74, 75, 76, 77]) (by repeat (first | exact Agr.refl _ _ | refine Agr.upd ?_ rfl | refine Agr.mix ?_ rfl))) rfl, (by omega), (filt_next_yes hL9 (by omega) c38), (by rw [List.length_append, List.length_singleton]; omega), (no_step2 hcf c34), rfl, hs.take 8⟩
            omega
          ·
            refine W_skip ?_
            refine W_region ?_
            refine RW_op (L_add (a := ((k : Nat) : Int)) (b := 1) (c := ((k + 1 : Nat) : Int)) rfl rfl (nat_i64 (by omega) (by omega)) ?_)
            refine RW_op (L_move (V := .int .i64 ((k + 1 : Nat) : Int)) rfl ?_)
            refine RW_nil ?_
            refine ⟨_, ?_, _, k + 1, a9, c9, L9, upd_of (mix_of (ds := [5, 10, 11, 12, 44, 45, 46, 47, 48, 49, 50, 51, 52, 53, 54, 55, 56, 57, 58, 59, 60, 61, 62, 63, 64, 65, 66, 67, 68, 69, 70, 71, 72, 73, 74, 75, 76, 77]) (by repeat (first | exact Agr.refl _ _ | refine Agr.upd ?_ rfl | refine Agr.mix ?_ rfl))) rfl, (by omega), (filt_next_no hL9 (by omega) c38), (by omega), (no_step2 hcf c34), rfl, hs.take 8⟩
            omega
      ·
        replace c26 := of_decide_eq_false c26
        refine W_exit ?_
        refine W_seq ?_
        refine W_seq ?_
        refine W_region ?_
        refine RW_op (L_fieldAddr FA_62_1 rfl ?_)
        refine RW_op (L_ld (V := .slice a1q q.ents.length c1q) S1_59 hs 1 rfl rfl rfl ?_)
        refine RW_op (L_lenR (n := q.ents.length) UD_59 (Rd.own' hr1q hs) (by simp) rfl ?_)
        refine RW_op (L_move (V := .int .i64 0) rfl ?_)
        refine RW_nil ?_
        refine W_block ?_
        refine W_loopI (fun ρ μ ρ' w' => ∃ (ρo : Env) (k2 : Nat) (a7 : Option Addr) (c7 : Nat) (L7 : List Cen), ρ' = upd (mix [14, 15, 16, 81, 82, 83, 84, 85, 86, 87, 88, 89, 90, 91, 92, 93, 94, 95, 96, 97, 98, 99, 100, 101, 102, 103, 104, 105, 106, 107, 108] ρo ρ) 81 (.int .i64 ((k2 : Nat) : Int)) ∧ (k2 ≤ q.ents.length) ∧ (L7 = p.ents.filter (keepA q) ++ (q.ents.take k2).filter (keepB p)) ∧ (L7.length ≤ p.ents.length + k2) ∧ μ = q.ents.length - k2 ∧ Own w no w' [blk b1 ((vc p.known) ++ [(.slice a1p p.ents.length c1p : Value), (.slice a2p p.ticks.length c2p : Value) ]) 62, blk b3 ((vc q.known) ++ [(.slice a1q q.ents.length c1q : Value), (.slice a2q q.ticks.length c2q : Value) ]) 62, blk b5 ((vc vzero) ++ [(.slice none 0 0 : Value), (.slice none 0 0 : Value) ]) 62, mapR r15 dv cv (dotsM p.ents), mapR r16 dv cv (dotsM q.ents), row (.slice a22 ((p.ticks).length) c23) (p.ticks.map lsc) 126 2, blk b24 ((vc (vjoin p.known q.known)) ++ [(.slice a7 L7.length c7 : Value), (.slice a22 ((p.ticks).length) c23 : Value) ]) 62, row (.slice a7 L7.length c7) (L7.map cec) 128 7]) ?_ ?_
        · exact ⟨_, _, 0, a9, c9, L9, upd_of (mix_of (ds := [14, 15, 16, 81, 82, 83, 84, 85, 86, 87, 88, 89, 90, 91, 92, 93, 94, 95, 96, 97, 98, 99, 100, 101, 102, 103, 104, 105, 106, 107, 108]) (Agr.refl _ _)) rfl, (by omega), (by rw [List.take_zero, List.filter_nil, List.append_nil, hL9, take_all (by omega)]), (by omega), rfl, hs⟩
        · rintro μ ρ' w44 ⟨ρo, k2, a7, c7, L7, rfl, hk2, hL7, hl7, rfl, hs⟩
          refine W_seq ?_
          refine W_region ?_
          refine RW_op (L_lss rfl rfl ?_)
          refine RW_nil ?_
          refine W_seq ?_
          refine W_cond (t := decide (((k2 : Nat) : Int) < ((q.ents.length : Nat) : Int))) rfl (fun c45 => ?_) (fun c45 => ?_)
          ·
            replace c45 := of_decide_eq_true c45
            refine W_skip ?_
            refine W_seq ?_
            refine W_block ?_
            refine W_seq ?_
            refine W_region ?_
            refine RW_op (L_ixR UD_59 SA_128.1 (Rd.own' hr1q hs) rfl rfl (by omega) (by rw [List.length_map]; omega) ?_)
            refine RW_op (L_ldRA (j := 0) (vs := cec (gd q.ents k2)) k2 SA_128 (Rd.own' hr1q hs) (gd_at (by omega)) rfl rfl rfl (by omega) ?_)
            refine RW_op (L_alloc (cs := cec (⟨0, 0, 0, 0, (⟨0, 0⟩ : Dot), 0⟩ : Cen)) ZV_128 rfl hs fun b46 w47 hs => ?_)
            replace hs : Own w no w47 [blk b1 ((vc p.known) ++ [(.slice a1p p.ents.length c1p : Value), (.slice a2p p.ticks.length c2p : Value) ]) 62, blk b3 ((vc q.known) ++ [(.slice a1q q.ents.length c1q : Value), (.slice a2q q.ticks.length c2q : Value) ]) 62, blk b5 ((vc vzero) ++ [(.slice none 0 0 : Value), (.slice none 0 0 : Value) ]) 62, mapR r15 dv cv (dotsM p.ents), mapR r16 dv cv (dotsM q.ents), row (.slice a22 ((p.ticks).length) c23) (p.ticks.map lsc) 126 2, blk b24 ((vc (vjoin p.known q.known)) ++ [(.slice a7 L7.length c7 : Value), (.slice a22 ((p.ticks).length) c23 : Value) ]) 62, row (.slice a7 L7.length c7) (L7.map cec) 128 7, blk b46 (cec (⟨0, 0, 0, 0, (⟨0, 0⟩ : Dot), 0⟩ : Cen)) 128] := hs
            refine RW_op (L_st (V := .agg (cec (gd q.ents k2)).toArray) (vs := cec (gd q.ents k2)) (cs' := cec (gd q.ents k2)) SA_128.1 hs 8 rfl rfl rfl rfl rfl (Nat.le_of_ble_eq_true rfl) (cec_one _) (spl_whole rfl) fun w48 hs => ?_)
            refine RW_nil ?_
            refine W_seq ?_
            have hce := (hqE _ (gd_mem (l := q.ents) (i := k2) (by omega))).2.2.2.2.1
            refine W_region ?_
            refine RW_op (L_move (V := .map (some r15)) rfl ?_)
            refine RW_op (L_fieldAddr FA_128_4 rfl ?_)
            refine RW_op (L_ldA (vs := dc ((gd q.ents k2).dot)) SA_96 hs 8 rfl rfl rfl rfl ?_)
            refine RW_op (L_lookupOkV (k := (gd q.ents k2).dot) (z := cz) UD_122 KO_96 ZV_128 (hs.mapf 3 rfl) rfl rfl ?_)
            refine RW_op (L_move (V := .tuple #[.agg (cec ((mget ((gd q.ents k2).dot) (dotsM p.ents)).getD cz)).toArray, .bool ((mget ((gd q.ents k2).dot) (dotsM p.ents)).isSome)]) rfl ?_)
            refine RW_op (L_extract (V := .agg (cec ((mget ((gd q.ents k2).dot) (dotsM p.ents)).getD cz)).toArray) rfl rfl ?_)
            refine RW_op (L_extract (V := .bool ((mget ((gd q.ents k2).dot) (dotsM p.ents)).isSome)) rfl rfl ?_)
            refine RW_op (L_alloc (cs := cec (⟨0, 0, 0, 0, (⟨0, 0⟩ : Dot), 0⟩ : Cen)) ZV_128 rfl hs fun b49 w50 hs => ?_)
            refine RW_op (L_st (V := .agg (cec ((mget ((gd q.ents k2).dot) (dotsM p.ents)).getD cz)).toArray) (vs := cec ((mget ((gd q.ents k2).dot) (dotsM p.ents)).getD cz)) (cs' := cec ((mget ((gd q.ents k2).dot) (dotsM p.ents)).getD cz)) SA_128.1 hs 9 rfl rfl rfl rfl rfl (Nat.le_of_ble_eq_true rfl) (cec_one _) (spl_whole rfl) fun w51 hs => ?_)
            refine RW_op (L_assign (V := .bool ((mget ((gd q.ents k2).dot) (dotsM p.ents)).isSome)) rfl ?_)
            refine RW_nil ?_
            refine W_seq ?_
            refine W_regO [some 92, some 93, some 94, some 95, some 96, some 97, some 98, some 99, some 100, some 101] [] [0, 1, 3, 7, 15, 7, 39, 127, 255, 511] [pv (.bool ((mget ((gd q.ents k2).dot) (dotsM p.ents)).isSome)), pv (.bool (!((mget ((gd q.ents k2).dot) (dotsM p.ents)).isSome))), pv (.bool (!((mget ((gd q.ents k2).dot) (dotsM p.ents)).isSome))), pg ((!((mget ((gd q.ents k2).dot) (dotsM p.ents)).isSome)) == true) (.pointer (some ⟨b1, 0 + 0, none⟩)), pg ((!((mget ((gd q.ents k2).dot) (dotsM p.ents)).isSome)) == true) (.agg (vc p.known).toArray), pg ((!((mget ((gd q.ents k2).dot) (dotsM p.ents)).isSome)) == true) (.pointer (some ⟨b46, 0 + 4, none⟩)), pg ((!((mget ((gd q.ents k2).dot) (dotsM p.ents)).isSome)) == true) (.agg (dc ((gd q.ents k2).dot)).toArray), pg ((!((mget ((gd q.ents k2).dot) (dotsM p.ents)).isSome)) == true) (.bool (hasB p.known ((gd q.ents k2).dot))), pg ((!((mget ((gd q.ents k2).dot) (dotsM p.ents)).isSome)) == true) (.bool (!(hasB p.known ((gd q.ents k2).dot)))), pv (.bool (keepB p (gd q.ents k2)))] (fun _ _ => _) [9] (by kernel_rfl) hs ⟨?_, ?_, ?_, ?_, ?_, ?_, ?_, ?_, ?_, ?_, trivial⟩ ?_
            · exact ob [] [] rfl rfl fun D ρ w hs => L_move (V := .bool ((mget ((gd q.ents k2).dot) (dotsM p.ents)).isSome)) rfl ⟨rfl, hs⟩
            · exact ob [0] [] rfl rfl fun D ρ w hs => L_not rfl ⟨rfl, hs⟩
            · exact ob [1] [] rfl rfl fun D ρ w hs => L_move (V := .bool (!((mget ((gd q.ents k2).dot) (dotsM p.ents)).isSome))) rfl ⟨rfl, hs⟩
            · exact obg [2] [] (!((mget ((gd q.ents k2).dot) (dotsM p.ents)).isSome)) rfl (fun _ => rfl) rfl (fun _ _ _ _ h => h) fun D ρ w hG hs => L_fieldAddr FA_62_0 rfl ⟨rfl, hs⟩
            · exact obgy [2, 3] [] [3] (!((mget ((gd q.ents k2).dot) (dotsM p.ents)).isSome)) rfl (fun _ => rfl) rfl (fun _ _ _ _ h => h) (fun hG => ⟨hG, trivial⟩) fun D ρ w hG hs => L_ldA (vs := vc p.known) SA_53 hs 0 rfl rfl rfl rfl ⟨rfl, hs⟩
            · exact obg [2] [] (!((mget ((gd q.ents k2).dot) (dotsM p.ents)).isSome)) rfl (fun _ => rfl) rfl (fun _ _ _ _ h => h) fun D ρ w hG hs => L_fieldAddr FA_128_4 rfl ⟨rfl, hs⟩
            · exact obgy [2, 5] [] [5] (!((mget ((gd q.ents k2).dot) (dotsM p.ents)).isSome)) rfl (fun _ => rfl) rfl (fun _ _ _ _ h => h) (fun hG => ⟨hG, trivial⟩) fun D ρ w hG hs => L_ldA (vs := dc ((gd q.ents k2).dot)) SA_96 hs 8 rfl rfl rfl rfl ⟨rfl, hs⟩
            · exact obgy [2, 4, 6] [] [4, 6] (!((mget ((gd q.ents k2).dot) (dotsM p.ents)).isSome)) rfl (fun _ => rfl) rfl (fun _ _ _ _ h => h) (fun hG => ⟨hG, hG, trivial⟩) fun D ρ w hG hs => L_callP (vs := [.agg (vc p.known).toArray, .agg (dc ((gd q.ents k2).dot)).toArray]) (V := .bool (hasB p.known ((gd q.ents k2).dot))) EN_62 rfl rfl (vHas_ok _ p.known ((gd q.ents k2).dot) (by first | assumption | exact dotOk_mk (by omega) (by omega) (by omega) (by omega))) hs fun _ hs => ⟨rfl, hs⟩
            · exact obgy [2, 7] [] [7] (!((mget ((gd q.ents k2).dot) (dotsM p.ents)).isSome)) rfl (fun _ => rfl) rfl (fun _ _ _ _ h => h) (fun hG => ⟨hG, trivial⟩) fun D ρ w hG hs => L_not rfl ⟨rfl, hs⟩
            · exact ob [2, 8] [] rfl rfl fun D ρ w hs => opW_to (V := .bool ((!((mget ((gd q.ents k2).dot) (dotsM p.ents)).isSome)) && (!(hasB p.known ((gd q.ents k2).dot))))) (V' := .bool (keepB p (gd q.ents k2))) (L_andC (h' := !(hasB p.known ((gd q.ents k2).dot))) rfl rfl rfl ⟨rfl, rfl⟩) (congrArg Value.bool (keepB_get _ _)) ⟨rfl, hs⟩
            rintro ρ1 w53 ρ2 hρ hs
            replace hρ : ρ2 = upd (mix [92, 93, 94, 95, 96, 97, 98, 99, 100, 101] ρ1 _) 101 (.bool (keepB p (gd q.ents k2))) := hρ
            subst hρ
            refine W_cond (t := keepB p (gd q.ents k2)) rfl (fun c54 => ?_) (fun c54 => ?_)
            ·
              refine W_region ?_
              refine RW_op (L_fieldAddr FA_62_1 rfl ?_)
              refine RW_op (L_ld (V := .slice a7 L7.length c7) S1_59 hs 6 rfl rfl rfl ?_)
              refine RW_op (L_ldW (cs := cec (gd q.ents k2)) SA_128 hs 8 rfl rfl rfl ?_)
              refine RW_op (L_bs (vals := [.agg (cec (gd q.ents k2)).toArray]) (ls := List.map cec ([gd q.ents k2] : List Cen)) EL_59 rfl rfl rfl (len_map (enc := cec) (fun _ => rfl) _) (one_map cec_one _) (Nat.le_of_ble_eq_true rfl) hs fun b55 w56 hs => ?_)
              replace hs : Own w no w56 [blk b1 ((vc p.known) ++ [(.slice a1p p.ents.length c1p : Value), (.slice a2p p.ticks.length c2p : Value) ]) 62, blk b3 ((vc q.known) ++ [(.slice a1q q.ents.length c1q : Value), (.slice a2q q.ticks.length c2q : Value) ]) 62, blk b5 ((vc vzero) ++ [(.slice none 0 0 : Value), (.slice none 0 0 : Value) ]) 62, mapR r15 dv cv (dotsM p.ents), mapR r16 dv cv (dotsM q.ents), row (.slice a22 ((p.ticks).length) c23) (p.ticks.map lsc) 126 2, blk b24 ((vc (vjoin p.known q.known)) ++ [(.slice a7 L7.length c7 : Value), (.slice a22 ((p.ticks).length) c23 : Value) ]) 62, row (.slice a7 L7.length c7) (L7.map cec) 128 7, blk b46 (cec (gd q.ents k2)) 128, blk b49 (cec ((mget ((gd q.ents k2).dot) (dotsM p.ents)).getD cz)) 128, row (.slice (some ⟨b55, 0, none⟩) 1 1) ([gd q.ents k2].map cec) 128 7] := hs
              refine RW_op (L_appN (ls' := (L7 ++ [gd q.ents k2]).map cec) (n := (L7 ++ [gd q.ents k2]).length) EL_59 hs 7 rfl rfl rfl (hs.rd 10 rfl) (one_map cec_one _) (by simp only [List.length_map, List.length_append, List.length_cons, List.length_nil]; omega) (by simp) (by simp) fun a57 c57 w58 hs => ?_)
              refine RW_op (L_fieldAddr FA_62_1 rfl ?_)
              refine RW_op (L_st1 (V := .slice a57 ((L7 ++ [gd q.ents k2]).length) c57) (cs' := (vc (vjoin p.known q.known)) ++ [(.slice a57 ((L7 ++ [gd q.ents k2]).length) c57 : Value), (.slice a22 ((p.ticks).length) c23 : Value) ]) S1_59 hs 6 rfl rfl rfl rfl (Nat.le_of_ble_eq_true rfl) rfl fun w59 hs => ?_)
              refine RW_nil ?_
              refine W_region ?_
              refine RW_op (L_add (a := ((k2 : Nat) : Int)) (b := 1) (c := ((k2 + 1 : Nat) : Int)) rfl rfl (nat_i64 (by omega) (by omega)) ?_)
              refine RW_op (L_move (V := .int .i64 ((k2 + 1 : Nat) : Int)) rfl ?_)
              refine RW_nil ?_
              refine ⟨_, ?_, _, k2 + 1, a57, c57, L7 ++ [gd q.ents k2], upd_of (mix_of (ds := [14, 15, 16, 81, 82, 83, 84, 85, 86, 87, 88, 89, 90, 91, 92, 93, 94, 95, 96, 97, 98, 99, 100, 101, 102, 103, 104, 105, 106, 107, 108]) (by repeat (first | exact Agr.refl _ _ | refine Agr.upd ?_ rfl | refine Agr.mix ?_ rfl))) rfl, (by omega), (filt_nextA_yes hL7 (by omega) c54), (by rw [List.length_append, List.length_singleton]; omega), rfl, hs.take 8⟩
              omega
            ·
              refine W_skip ?_
              refine W_region ?_
              refine RW_op (L_add (a := ((k2 : Nat) : Int)) (b := 1) (c := ((k2 + 1 : Nat) : Int)) rfl rfl (nat_i64 (by omega) (by omega)) ?_)
              refine RW_op (L_move (V := .int .i64 ((k2 + 1 : Nat) : Int)) rfl ?_)
              refine RW_nil ?_
              refine ⟨_, ?_, _, k2 + 1, a7, c7, L7, upd_of (mix_of (ds := [14, 15, 16, 81, 82, 83, 84, 85, 86, 87, 88, 89, 90, 91, 92, 93, 94, 95, 96, 97, 98, 99, 100, 101, 102, 103, 104, 105, 106, 107, 108]) (by repeat (first | exact Agr.refl _ _ | refine Agr.upd ?_ rfl | refine Agr.mix ?_ rfl))) rfl, (by omega), (filt_nextA_no hL7 (by omega) c54), (by omega), rfl, hs.take 8⟩
              omega
          ·
            replace c45 := of_decide_eq_false c45
            refine W_exit ?_
            refine W_seq ?_
            refine W_region ?_
            refine RW_op (L_fieldAddr FA_62_1 rfl ?_)
            refine RW_op (L_ld (V := .slice a7 L7.length c7) S1_59 hs 6 rfl rfl rfl ?_)
            refine RW_op (L_callB (α := { m : List Cen // srtE L7 m }) (vs := [.slice a7 L7.length c7, .func (.func 64) #[] #[]]) (V := fun _ => .tuple #[]) (R := row (.slice a7 L7.length c7) (L7.map cec) 128 7) (R' := fun x => row (.slice a7 L7.length c7) (x.1.map cec) 128 7) (Lo := fun _ => []) (F := fun _ _ => True) EN_63 rfl rfl hs 7 rfl (fun S hS hlt => hsortE _ S _ _ _ hS hlt (by omega)) fun sx61 w60 hs _ => ?_)
            replace hs : Own w no w60 [blk b1 ((vc p.known) ++ [(.slice a1p p.ents.length c1p : Value), (.slice a2p p.ticks.length c2p : Value) ]) 62, blk b3 ((vc q.known) ++ [(.slice a1q q.ents.length c1q : Value), (.slice a2q q.ticks.length c2q : Value) ]) 62, blk b5 ((vc vzero) ++ [(.slice none 0 0 : Value), (.slice none 0 0 : Value) ]) 62, mapR r15 dv cv (dotsM p.ents), mapR r16 dv cv (dotsM q.ents), row (.slice a22 ((p.ticks).length) c23) (p.ticks.map lsc) 126 2, blk b24 ((vc (vjoin p.known q.known)) ++ [(.slice a7 L7.length c7 : Value), (.slice a22 ((p.ticks).length) c23 : Value) ]) 62, row (.slice a7 L7.length c7) (sx61.1.map cec) 128 7] := hs
            refine RW_nil ?_
            refine W_seq ?_
            refine W_seq ?_
            refine W_region ?_
            refine RW_op (L_fieldAddr FA_62_2 rfl ?_)
            refine RW_op (L_ld (V := .slice a2q q.ticks.length c2q) S1_60 hs 1 rfl rfl rfl ?_)
            refine RW_op (L_lenR (n := q.ticks.length) UD_60 (Rd.own' hr2q hs) (by simp) rfl ?_)
            refine RW_op (L_move (V := .int .i64 0) rfl ?_)
            refine RW_nil ?_
            refine W_block ?_
            refine W_loopI (fun ρ μ ρ' w' => ∃ (ρo : Env) (k3 : Nat) (a8 : Option Addr) (c8 : Nat) (L8 : List Lst), ρ' = upd (mix [18, 115, 116, 117, 118, 119, 120, 121] ρo ρ) 115 (.int .i64 ((k3 : Nat) : Int)) ∧ (k3 ≤ q.ticks.length) ∧ (L8 = ticksM p.ticks (q.ticks.take k3)) ∧ μ = q.ticks.length - k3 ∧ Own w no w' [blk b1 ((vc p.known) ++ [(.slice a1p p.ents.length c1p : Value), (.slice a2p p.ticks.length c2p : Value) ]) 62, blk b3 ((vc q.known) ++ [(.slice a1q q.ents.length c1q : Value), (.slice a2q q.ticks.length c2q : Value) ]) 62, blk b5 ((vc vzero) ++ [(.slice none 0 0 : Value), (.slice none 0 0 : Value) ]) 62, mapR r15 dv cv (dotsM p.ents), mapR r16 dv cv (dotsM q.ents), row (.slice a8 L8.length c8) (L8.map lsc) 126 2, blk b24 ((vc (vjoin p.known q.known)) ++ [(.slice a7 L7.length c7 : Value), (.slice a8 L8.length c8 : Value) ]) 62, row (.slice a7 L7.length c7) (sx61.1.map cec) 128 7]) ?_ ?_
            · exact ⟨_, _, 0, a22, c23, p.ticks, upd_of (mix_of (ds := [18, 115, 116, 117, 118, 119, 120, 121]) (Agr.refl _ _)) rfl, (by omega), rfl, rfl, hs⟩
            · rintro μ ρ' w62 ⟨ρo, k3, a8, c8, L8, rfl, hk3, hL8, rfl, hs⟩
              refine W_seq ?_
              refine W_region ?_
              refine RW_op (L_lss rfl rfl ?_)
              refine RW_nil ?_
              refine W_seq ?_
              refine W_cond (t := decide (((k3 : Nat) : Int) < ((q.ticks.length : Nat) : Int))) rfl (fun c63 => ?_) (fun c63 => ?_)
              ·
                replace c63 := of_decide_eq_true c63
                refine W_skip ?_
                refine W_seq ?_
                refine W_block ?_
                refine W_seq ?_
                refine W_region ?_
                refine RW_op (L_ixR UD_60 SA_126.1 (Rd.own' hr2q hs) rfl rfl (by omega) (by rw [List.length_map]; omega) ?_)
                refine RW_op (L_ldRA (j := 0) (vs := lsc (gd q.ticks k3)) k3 SA_126 (Rd.own' hr2q hs) (gd_at (by omega)) rfl rfl rfl (by omega) ?_)
                refine RW_op (L_alloc (cs := lsc (⟨0, 0⟩ : Lst)) ZV_126 rfl hs fun b64 w65 hs => ?_)
                refine RW_op (L_st (V := .agg (lsc (gd q.ticks k3)).toArray) (vs := lsc (gd q.ticks k3)) (cs' := lsc (gd q.ticks k3)) SA_126.1 hs 8 rfl rfl rfl rfl rfl (Nat.le_of_ble_eq_true rfl) (lsc_one _) (spl_whole rfl) fun w66 hs => ?_)
                refine RW_nil ?_
                have hT8 : RisT L8 := by rw [hL8]; exact ticksM_ris hra.rt _
                have hl8 : L8.length ≤ 10000 := by have := ticksM_len (s := p.ticks) (q.ticks.take k3); rw [← hL8, List.length_take] at this; omega
                refine W_region ?_
                refine RW_op (L_ldW (cs := lsc (gd q.ticks k3)) SA_126 hs 8 rfl rfl rfl ?_)
                replace hs := hs.join 6 5 (by decide) rfl rfl
                refine RW_op (L_callB (α := Option Addr × Nat) (vs := [.pointer (some ⟨b24, 0, none⟩), .agg (lsc (gd q.ticks k3)).toArray]) (V := fun _ => .tuple #[]) (R := star [blk b24 (vc (vjoin p.known q.known) ++ [(.slice a7 L7.length c7 : Value), (.slice a8 L8.length c8 : Value)]) 62, row (.slice a8 L8.length c8) (L8.map lsc) 126 2]) (R' := fun x => star [blk b24 (vc (vjoin p.known q.known) ++ [(.slice a7 L7.length c7 : Value), (.slice x.1 (putT ((gd q.ticks k3).cart) ((gd q.ticks k3).tick) L8).length x.2 : Value)]) 62, row (.slice x.1 (putT ((gd q.ticks k3).cart) ((gd q.ticks k3).tick) L8).length x.2) ((putT ((gd q.ticks k3).cart) ((gd q.ticks k3).tick) L8).map lsc) 126 2]) (Lo := fun _ => []) (F := fun _ _ => True) EN_65 rfl rfl hs 6 rfl (fun S hS hlS => tick_ok _ S b24 (vjoin p.known q.known) (.slice a7 L7.length c7) a8 c8 L8 (gd q.ticks k3) (by omega) hT8 hS hlS) fun x67 w68 hs _ => ?_)
                replace hs := hs.split 6 rfl
                replace hs := hs.put 5 (Nat.le_of_ble_eq_true rfl)
                refine RW_nil ?_
                refine W_region ?_
                refine RW_op (L_add (a := ((k3 : Nat) : Int)) (b := 1) (c := ((k3 + 1 : Nat) : Int)) rfl rfl (nat_i64 (by omega) (by omega)) ?_)
                refine RW_op (L_move (V := .int .i64 ((k3 + 1 : Nat) : Int)) rfl ?_)
                refine RW_nil ?_
                refine ⟨_, ?_, _, k3 + 1, x67.1, x67.2, putT ((gd q.ticks k3).cart) ((gd q.ticks k3).tick) L8, upd_of (mix_of (ds := [18, 115, 116, 117, 118, 119, 120, 121]) (by repeat (first | exact Agr.refl _ _ | refine Agr.upd ?_ rfl | refine Agr.mix ?_ rfl))) rfl, (by omega), (by rw [ticksM_next (by omega), ← hL8]), rfl, hs.take 8⟩
                omega
              ·
                replace c63 := of_decide_eq_false c63
                refine W_exit ?_
                refine W_seq ?_
                refine W_region ?_
                refine RW_op (L_ldW (cs := (vc (vjoin p.known q.known)) ++ [(.slice a7 L7.length c7 : Value), (.slice a8 L8.length c8 : Value) ]) SA_62 hs 6 rfl rfl rfl ?_)
                refine RW_op (L_st (V := .agg ((vc (vjoin p.known q.known)) ++ [(.slice a7 L7.length c7 : Value), (.slice a8 L8.length c8 : Value) ]).toArray) (vs := (vc (vjoin p.known q.known)) ++ [(.slice a7 L7.length c7 : Value), (.slice a8 L8.length c8 : Value) ]) (cs' := (vc (vjoin p.known q.known)) ++ [(.slice a7 L7.length c7 : Value), (.slice a8 L8.length c8 : Value) ]) SA_62.1 hs 2 rfl rfl rfl rfl rfl (Nat.le_of_ble_eq_true rfl) (one_app (vc_one _) (one_cons rfl (one_cons rfl one_nil))) (spl_whole rfl) fun w69 hs => ?_)
                refine RW_op (L_assign (V := .int .i64 0) rfl ?_)
                refine RW_nil ?_
                refine W_ret ?_
                refine ⟨_, res_cell2 (cs := (vc (vjoin p.known q.known)) ++ [(.slice a7 L7.length c7 : Value), (.slice a8 L8.length c8 : Value) ]) (V := .int .i64 0) Try.results28 SA_62 hs 2 rfl rfl rfl rfl, ?_⟩
                have hcc := conf_none (b := q) (l := p.ents) fun j hj => hcf j (by omega)
                have hLL : L7 = p.ents.filter (keepA q) ++ q.ents.filter (keepB p) := by rw [hL7, take_all (l := q.ents) (by omega)]
                have hsx : srtE (p.ents.filter (keepA q) ++ q.ents.filter (keepB p)) sx61.1 := by rw [← hLL]; exact sx61.2
                obtain ⟨hI, hR⟩ := mergeR_eq hra hrb hcc hsx
                have hml := mergeR_len hra hrb hcc hsx hLL
                have hT : L8 = ticksM p.ticks q.ticks := by rw [hL8, take_all (l := q.ticks) (by omega)]
                rw [hI]
                rw [hR] at hml ⊢
                subst hT
                rw [hml] at hs ⊢
                exact ⟨((a7, c7), (a8, c8)), rfl, hs.two 7 5 (by decide) rfl rfl, trivial⟩
end Tt
end Go.Proofs
namespace Go.Proofs
open Go Go.Vx Go.RowKit
namespace Tt
theorem cApply_okE (R : Sta) (I : Int) (w : World) (s : Sta) (a1 : Option Addr) (c1 : Nat) (a2 : Option Addr) (c2 : Nat) (o : Opn) (hO : OpnOk o) (hok : StaOk s) (hle : s.ents.length ≤ 1000) (hlt : s.ticks.length ≤ 1000) (hr1 : Rd w (.slice a1 s.ents.length c1) 7 (s.ents.map cec)) (hr2 : Rd w (.slice a2 s.ticks.length c2) 2 (s.ticks.map lsc)) (hR : applyR s o = R) (hI : applyI s o = I) : Calls Try.prog 45 #[.agg ((vc s.known) ++ [(.slice a1 s.ents.length c1 : Value), (.slice a2 s.ticks.length c2 : Value) ]).toArray, .agg (oc o).toArray] w (fun e w' => ∃ x : (Option Addr × Nat) × (Option Addr × Nat), e = .returned (.tuple #[.agg (vc (R).known ++ [(.slice x.1.1 (R).ents.length x.1.2 : Value), (.slice x.2.1 (R).ticks.length x.2.2 : Value)]).toArray, .int .i64 I]) ∧ Own w no w' [row (.slice x.1.1 (R).ents.length x.1.2) ((R).ents.map cec) 128 7, row (.slice x.2.1 (R).ticks.length x.2.2) ((R).ticks.map lsc) 126 2] ∧ True) := by
  subst hR; subst hI; exact cApply_ok w s a1 c1 a2 c2 o hO hok hle hlt hr1 hr2
theorem cMerge_okE (R : Sta) (I : Int) (w : World) (p : Sta) (a1p : Option Addr) (c1p : Nat) (a2p : Option Addr) (c2p : Nat) (q : Sta) (a1q : Option Addr) (c1q : Nat) (a2q : Option Addr) (c2q : Nat) (hsortE : SortC Try.prog 63 64 cec 128 7 srtE) (hokp : StaOk p) (hlep : p.ents.length ≤ 1000) (hltp : p.ticks.length ≤ 1000) (hokq : StaOk q) (hleq : q.ents.length ≤ 1000) (hltq : q.ticks.length ≤ 1000) (hr1p : Rd w (.slice a1p p.ents.length c1p) 7 (p.ents.map cec)) (hr2p : Rd w (.slice a2p p.ticks.length c2p) 2 (p.ticks.map lsc)) (hr1q : Rd w (.slice a1q q.ents.length c1q) 7 (q.ents.map cec)) (hr2q : Rd w (.slice a2q q.ticks.length c2q) 2 (q.ticks.map lsc)) (hR : mergeR p q = R) (hI : mergeI p q = I) : Calls Try.prog 28 #[.agg ((vc p.known) ++ [(.slice a1p p.ents.length c1p : Value), (.slice a2p p.ticks.length c2p : Value) ]).toArray, .agg ((vc q.known) ++ [(.slice a1q q.ents.length c1q : Value), (.slice a2q q.ticks.length c2q : Value) ]).toArray] w (fun e w' => ∃ x : (Option Addr × Nat) × (Option Addr × Nat), e = .returned (.tuple #[.agg (vc (R).known ++ [(.slice x.1.1 (R).ents.length x.1.2 : Value), (.slice x.2.1 (R).ticks.length x.2.2 : Value)]).toArray, .int .i64 I]) ∧ Own w no w' [row (.slice x.1.1 (R).ents.length x.1.2) ((R).ents.map cec) 128 7, row (.slice x.2.1 (R).ticks.length x.2.2) ((R).ticks.map lsc) 126 2] ∧ True) := by
  subst hR; subst hI; exact cMerge_ok w p a1p c1p a2p c2p q a1q c1q a2q c2q hsortE hokp hlep hltp hokq hleq hltq hr1p hr2p hr1q hr2q
end Tt
end Go.Proofs
namespace Go.Proofs
open Go Go.Vx Go.RowKit
namespace Tt
theorem cViewE_ok (w : World) (s : Sta) (a1 : Option Addr) (c1 : Nat) (a2 : Option Addr) (c2 : Nat) (n : Int) (V : Vw) (hV : viewC s n (rightS s) = V) (hok : StaOk s) (hle : s.ents.length ≤ 1000) (hlt : s.ticks.length ≤ 1000) (hr1 : Rd w (.slice a1 s.ents.length c1) 7 (s.ents.map cec)) (hr2 : Rd w (.slice a2 s.ticks.length c2) 2 (s.ticks.map lsc)) : Calls Try.prog 34 #[.agg ((vc s.known) ++ [(.slice a1 s.ents.length c1 : Value), (.slice a2 s.ticks.length c2 : Value) ]).toArray, .int .u16 n] w (fun e w' => ∃ x : Option Addr × Nat, e = .returned (.agg [.int .u16 (V).cart, .slice x.1 (V).lines.length x.2, .bool (V).out, .int .u32 (V).tick].toArray) ∧ Own w no w' [row (.slice x.1 (V).lines.length x.2) ((V).lines.map lc) 102 2] ∧ True) := by
  subst hV; exact cView_ok w s a1 c1 a2 c2 n hok hle hlt hr1 hr2
set_option maxRecDepth 20000 in
set_option maxHeartbeats 4000000 in
theorem alive8_ok (w : World) (hsortE : SortC Try.prog 63 64 cec 128 7 srtE) : Calls Try.prog 26 #[] w (fun e w' => e = .returned (.bool true) ∧ Own w no w' []) := by
  refine calls_of_Wn (n := 95) Try.func26 rfl Try.ntmps26 rfl ?_
  have hs := Own.start w
  have haE := al3E
  refine W_seq ?_
  refine W_region ?_
  refine RW_op (L_assign (V := .bool false) rfl ?_)
  refine RW_nil ?_
  refine W_seq ?_
  refine W_region ?_
  refine RW_op (L_buildP (vs := []) (cs := (vc vzero) ++ [(.slice none 0 0 : Value), (.slice none 0 0 : Value) ]) [vc vzero, [(.slice none 0 0 : Value)], [(.slice none 0 0 : Value)]] [vc vzero, [(.slice none 0 0 : Value)], [(.slice none 0 0 : Value)]] BT_62 rfl (rfl) rfl rfl ?_)
  refine RW_op (L_build (vs := [(1, .int .u32 1)]) (cs := dc (⟨0, 1⟩ : Dot)) BT_96 (rfl) rfl ?_)
  refine RW_op (opW_to (V := .agg (oc (⟨(⟨0, 1⟩ : Dot), 1, 3, 4, 2, 5, vzero⟩ : Opn)).toArray) (V' := .agg (oc alO1).toArray) (L_buildP (vs := [(0, .agg (dc (⟨0, 1⟩ : Dot)).toArray), (1, .int .u8 1), (2, .int .u16 3), (3, .int .u16 4), (4, .int .u16 2), (5, .int .u32 5)]) (cs := oc (⟨(⟨0, 1⟩ : Dot), 1, 3, 4, 2, 5, vzero⟩ : Opn)) [dc (⟨0, 0⟩ : Dot), [(.int .u8 0 : Value)], [(.int .u16 0 : Value)], [(.int .u16 0 : Value)], [(.int .u16 0 : Value)], [(.int .u32 0 : Value)], vc vzero] [dc (⟨0, 1⟩ : Dot), [(.int .u8 1 : Value)], [(.int .u16 3 : Value)], [(.int .u16 4 : Value)], [(.int .u16 2 : Value)], [(.int .u32 5 : Value)], vc vzero] BT_98 rfl (rfl) rfl rfl ⟨rfl, rfl⟩) rfl ?_)
  refine RW_op (L_callX (α := (Option Addr × Nat) × (Option Addr × Nat)) (vs := [.agg ((vc vzero) ++ [(.slice none 0 0 : Value), (.slice none 0 0 : Value) ]).toArray, .agg (oc alO1).toArray]) (V := fun x : (Option Addr × Nat) × (Option Addr × Nat) => .tuple #[.agg (vc alS1.known ++ [(.slice x.1.1 (alS1.ents).length x.1.2 : Value), (.slice x.2.1 (alS1.ticks).length x.2.2 : Value)]).toArray, .int .i64 0]) (Lo := fun x => [row (.slice x.1.1 (alS1.ents).length x.1.2) ((alS1.ents).map cec) 128 7, row (.slice x.2.1 (alS1.ticks).length x.2.2) ((alS1.ticks).map lsc) 126 2]) (F := fun _ _ => True) EN_45 rfl rfl ?hc hs fun x2 w1 hs _ => ?_)
  case hc => exact (cApply_okE alS1 0 _ (⟨vzero, [], []⟩ : Sta) none 0 none 0 alO1 alO1_ok szero_ok (by decide +kernel) (by decide +kernel) (Rd.nil _ 7) (Rd.nil _ 2) al1R al1I)
  refine RW_op (L_move (V := .tuple #[.agg ((vc alS1.known) ++ [(.slice x2.1.1 ((alS1.ents).length) x2.1.2 : Value), (.slice x2.2.1 ((alS1.ticks).length) x2.2.2 : Value) ]).toArray, .int .i64 0]) rfl ?_)
  refine RW_op (L_extract (V := .agg ((vc alS1.known) ++ [(.slice x2.1.1 ((alS1.ents).length) x2.1.2 : Value), (.slice x2.2.1 ((alS1.ticks).length) x2.2.2 : Value) ]).toArray) rfl rfl ?_)
  refine RW_op (L_extract (V := .int .i64 0) rfl rfl ?_)
  refine RW_op (L_alloc (cs := (vc vzero) ++ [(.slice none 0 0 : Value), (.slice none 0 0 : Value) ]) ZV_62 rfl hs fun b3 w4 hs => ?_)
  refine RW_op (L_st (V := .agg ((vc alS1.known) ++ [(.slice x2.1.1 ((alS1.ents).length) x2.1.2 : Value), (.slice x2.2.1 ((alS1.ticks).length) x2.2.2 : Value) ]).toArray) (vs := (vc alS1.known) ++ [(.slice x2.1.1 ((alS1.ents).length) x2.1.2 : Value), (.slice x2.2.1 ((alS1.ticks).length) x2.2.2 : Value) ]) (cs' := (vc alS1.known) ++ [(.slice x2.1.1 ((alS1.ents).length) x2.1.2 : Value), (.slice x2.2.1 ((alS1.ticks).length) x2.2.2 : Value) ]) SA_62.1 hs 2 rfl rfl rfl rfl rfl (Nat.le_of_ble_eq_true rfl) (one_app (vc_one _) (one_cons rfl (one_cons rfl one_nil))) (spl_whole rfl) fun w5 hs => ?_)
  replace hs : Own w no w5 [row (.slice x2.1.1 ((alS1.ents).length) x2.1.2) (alS1.ents.map cec) 128 7, row (.slice x2.2.1 ((alS1.ticks).length) x2.2.2) (alS1.ticks.map lsc) 126 2, blk b3 ((vc alS1.known) ++ [(.slice x2.1.1 ((alS1.ents).length) x2.1.2 : Value), (.slice x2.2.1 ((alS1.ticks).length) x2.2.2 : Value) ]) 62] := hs
  refine RW_op (L_assign (V := .int .i64 0) rfl ?_)
  refine RW_nil ?_
  refine W_seq ?_
  refine W_region ?_
  refine RW_op (L_ldW (cs := (vc alS1.known) ++ [(.slice x2.1.1 ((alS1.ents).length) x2.1.2 : Value), (.slice x2.2.1 ((alS1.ticks).length) x2.2.2 : Value) ]) SA_62 hs 2 rfl rfl rfl ?_)
  refine RW_op (L_build (vs := [(1, .int .u32 2)]) (cs := dc (⟨0, 2⟩ : Dot)) BT_96 (rfl) rfl ?_)
  refine RW_op (L_build (vs := [(0, .int .u32 1)]) (cs := vc (vset vzero 0 1)) BT_53 (rfl) rfl ?_)
  refine RW_op (opW_to (V := .agg (oc (⟨(⟨0, 2⟩ : Dot), 3, 3, 4, 0, 6, vset vzero 0 1⟩ : Opn)).toArray) (V' := .agg (oc alO2).toArray) (L_buildP (vs := [(0, .agg (dc (⟨0, 2⟩ : Dot)).toArray), (1, .int .u8 3), (2, .int .u16 3), (3, .int .u16 4), (5, .int .u32 6), (6, .agg (vc (vset vzero 0 1)).toArray)]) (cs := oc (⟨(⟨0, 2⟩ : Dot), 3, 3, 4, 0, 6, vset vzero 0 1⟩ : Opn)) [dc (⟨0, 0⟩ : Dot), [(.int .u8 0 : Value)], [(.int .u16 0 : Value)], [(.int .u16 0 : Value)], [(.int .u16 0 : Value)], [(.int .u32 0 : Value)], vc vzero] [dc (⟨0, 2⟩ : Dot), [(.int .u8 3 : Value)], [(.int .u16 3 : Value)], [(.int .u16 4 : Value)], [(.int .u16 0 : Value)], [(.int .u32 6 : Value)], vc (vset vzero 0 1)] BT_98 rfl (rfl) rfl rfl ⟨rfl, rfl⟩) rfl ?_)
  refine RW_op (L_callX (α := (Option Addr × Nat) × (Option Addr × Nat)) (vs := [.agg ((vc alS1.known) ++ [(.slice x2.1.1 ((alS1.ents).length) x2.1.2 : Value), (.slice x2.2.1 ((alS1.ticks).length) x2.2.2 : Value) ]).toArray, .agg (oc alO2).toArray]) (V := fun x : (Option Addr × Nat) × (Option Addr × Nat) => .tuple #[.agg (vc alS2.known ++ [(.slice x.1.1 (alS2.ents).length x.1.2 : Value), (.slice x.2.1 (alS2.ticks).length x.2.2 : Value)]).toArray, .int .i64 0]) (Lo := fun x => [row (.slice x.1.1 (alS2.ents).length x.1.2) ((alS2.ents).map cec) 128 7, row (.slice x.2.1 (alS2.ticks).length x.2.2) ((alS2.ticks).map lsc) 126 2]) (F := fun _ _ => True) EN_45 rfl rfl ?hc hs fun x7 w6 hs _ => ?_)
  case hc => exact (cApply_okE alS2 0 _ alS1 x2.1.1 x2.1.2 x2.2.1 x2.2.2 alO2 alO2_ok alS1_ok (by decide +kernel) (by decide +kernel) (hs.rd 0 rfl) (hs.rd 1 rfl) al2R al2I)
  refine RW_op (L_move (V := .tuple #[.agg ((vc alS2.known) ++ [(.slice x7.1.1 ((alS2.ents).length) x7.1.2 : Value), (.slice x7.2.1 ((alS2.ticks).length) x7.2.2 : Value) ]).toArray, .int .i64 0]) rfl ?_)
  refine RW_op (L_extract (V := .agg ((vc alS2.known) ++ [(.slice x7.1.1 ((alS2.ents).length) x7.1.2 : Value), (.slice x7.2.1 ((alS2.ticks).length) x7.2.2 : Value) ]).toArray) rfl rfl ?_)
  refine RW_op (L_extract (V := .int .i64 0) rfl rfl ?_)
  refine RW_op (L_alloc (cs := (vc vzero) ++ [(.slice none 0 0 : Value), (.slice none 0 0 : Value) ]) ZV_62 rfl hs fun b8 w9 hs => ?_)
  refine RW_op (L_st (V := .agg ((vc alS2.known) ++ [(.slice x7.1.1 ((alS2.ents).length) x7.1.2 : Value), (.slice x7.2.1 ((alS2.ticks).length) x7.2.2 : Value) ]).toArray) (vs := (vc alS2.known) ++ [(.slice x7.1.1 ((alS2.ents).length) x7.1.2 : Value), (.slice x7.2.1 ((alS2.ticks).length) x7.2.2 : Value) ]) (cs' := (vc alS2.known) ++ [(.slice x7.1.1 ((alS2.ents).length) x7.1.2 : Value), (.slice x7.2.1 ((alS2.ticks).length) x7.2.2 : Value) ]) SA_62.1 hs 5 rfl rfl rfl rfl rfl (Nat.le_of_ble_eq_true rfl) (one_app (vc_one _) (one_cons rfl (one_cons rfl one_nil))) (spl_whole rfl) fun w10 hs => ?_)
  replace hs : Own w no w10 [row (.slice x2.1.1 ((alS1.ents).length) x2.1.2) (alS1.ents.map cec) 128 7, row (.slice x2.2.1 ((alS1.ticks).length) x2.2.2) (alS1.ticks.map lsc) 126 2, blk b3 ((vc alS1.known) ++ [(.slice x2.1.1 ((alS1.ents).length) x2.1.2 : Value), (.slice x2.2.1 ((alS1.ticks).length) x2.2.2 : Value) ]) 62, row (.slice x7.1.1 ((alS2.ents).length) x7.1.2) (alS2.ents.map cec) 128 7, row (.slice x7.2.1 ((alS2.ticks).length) x7.2.2) (alS2.ticks.map lsc) 126 2, blk b8 ((vc alS2.known) ++ [(.slice x7.1.1 ((alS2.ents).length) x7.1.2 : Value), (.slice x7.2.1 ((alS2.ticks).length) x7.2.2 : Value) ]) 62] := hs
  refine RW_op (L_assign (V := .int .i64 0) rfl ?_)
  refine RW_nil ?_
  refine W_seq ?_
  refine W_region ?_
  refine RW_op (L_ldW (cs := (vc alS1.known) ++ [(.slice x2.1.1 ((alS1.ents).length) x2.1.2 : Value), (.slice x2.2.1 ((alS1.ticks).length) x2.2.2 : Value) ]) SA_62 hs 2 rfl rfl rfl ?_)
  refine RW_op (L_ldW (cs := (vc alS2.known) ++ [(.slice x7.1.1 ((alS2.ents).length) x7.1.2 : Value), (.slice x7.2.1 ((alS2.ticks).length) x7.2.2 : Value) ]) SA_62 hs 5 rfl rfl rfl ?_)
  refine RW_op (L_callX (α := (Option Addr × Nat) × (Option Addr × Nat)) (vs := [.agg ((vc alS1.known) ++ [(.slice x2.1.1 ((alS1.ents).length) x2.1.2 : Value), (.slice x2.2.1 ((alS1.ticks).length) x2.2.2 : Value) ]).toArray, .agg ((vc alS2.known) ++ [(.slice x7.1.1 ((alS2.ents).length) x7.1.2 : Value), (.slice x7.2.1 ((alS2.ticks).length) x7.2.2 : Value) ]).toArray]) (V := fun x : (Option Addr × Nat) × (Option Addr × Nat) => .tuple #[.agg (vc (mergeR alS1 alS2).known ++ [(.slice x.1.1 ((mergeR alS1 alS2).ents).length x.1.2 : Value), (.slice x.2.1 ((mergeR alS1 alS2).ticks).length x.2.2 : Value)]).toArray, .int .i64 0]) (Lo := fun x => [row (.slice x.1.1 ((mergeR alS1 alS2).ents).length x.1.2) (((mergeR alS1 alS2).ents).map cec) 128 7, row (.slice x.2.1 ((mergeR alS1 alS2).ticks).length x.2.2) (((mergeR alS1 alS2).ticks).map lsc) 126 2]) (F := fun _ _ => True) EN_28 rfl rfl ?hc hs fun x12 w11 hs _ => ?_)
  case hc => exact (cMerge_okE (mergeR alS1 alS2) 0 _ alS1 x2.1.1 x2.1.2 x2.2.1 x2.2.2 alS2 x7.1.1 x7.1.2 x7.2.1 x7.2.2 hsortE alS1_ok (by decide +kernel) (by decide +kernel) alS2_ok (by decide +kernel) (by decide +kernel) (hs.rd 0 rfl) (hs.rd 1 rfl) (hs.rd 3 rfl) (hs.rd 4 rfl) rfl al3I)
  refine RW_op (L_move (V := .tuple #[.agg ((vc ((mergeR alS1 alS2).known)) ++ [(.slice x12.1.1 (((mergeR alS1 alS2).ents).length) x12.1.2 : Value), (.slice x12.2.1 (((mergeR alS1 alS2).ticks).length) x12.2.2 : Value) ]).toArray, .int .i64 0]) rfl ?_)
  refine RW_op (L_extract (V := .agg ((vc ((mergeR alS1 alS2).known)) ++ [(.slice x12.1.1 (((mergeR alS1 alS2).ents).length) x12.1.2 : Value), (.slice x12.2.1 (((mergeR alS1 alS2).ticks).length) x12.2.2 : Value) ]).toArray) rfl rfl ?_)
  refine RW_op (L_extract (V := .int .i64 0) rfl rfl ?_)
  refine RW_op (L_alloc (cs := (vc vzero) ++ [(.slice none 0 0 : Value), (.slice none 0 0 : Value) ]) ZV_62 rfl hs fun b13 w14 hs => ?_)
  refine RW_op (L_st (V := .agg ((vc ((mergeR alS1 alS2).known)) ++ [(.slice x12.1.1 (((mergeR alS1 alS2).ents).length) x12.1.2 : Value), (.slice x12.2.1 (((mergeR alS1 alS2).ticks).length) x12.2.2 : Value) ]).toArray) (vs := (vc ((mergeR alS1 alS2).known)) ++ [(.slice x12.1.1 (((mergeR alS1 alS2).ents).length) x12.1.2 : Value), (.slice x12.2.1 (((mergeR alS1 alS2).ticks).length) x12.2.2 : Value) ]) (cs' := (vc ((mergeR alS1 alS2).known)) ++ [(.slice x12.1.1 (((mergeR alS1 alS2).ents).length) x12.1.2 : Value), (.slice x12.2.1 (((mergeR alS1 alS2).ticks).length) x12.2.2 : Value) ]) SA_62.1 hs 8 rfl rfl rfl rfl rfl (Nat.le_of_ble_eq_true rfl) (one_app (vc_one _) (one_cons rfl (one_cons rfl one_nil))) (spl_whole rfl) fun w15 hs => ?_)
  replace hs : Own w no w15 [row (.slice x2.1.1 ((alS1.ents).length) x2.1.2) (alS1.ents.map cec) 128 7, row (.slice x2.2.1 ((alS1.ticks).length) x2.2.2) (alS1.ticks.map lsc) 126 2, blk b3 ((vc alS1.known) ++ [(.slice x2.1.1 ((alS1.ents).length) x2.1.2 : Value), (.slice x2.2.1 ((alS1.ticks).length) x2.2.2 : Value) ]) 62, row (.slice x7.1.1 ((alS2.ents).length) x7.1.2) (alS2.ents.map cec) 128 7, row (.slice x7.2.1 ((alS2.ticks).length) x7.2.2) (alS2.ticks.map lsc) 126 2, blk b8 ((vc alS2.known) ++ [(.slice x7.1.1 ((alS2.ents).length) x7.1.2 : Value), (.slice x7.2.1 ((alS2.ticks).length) x7.2.2 : Value) ]) 62, row (.slice x12.1.1 (((mergeR alS1 alS2).ents).length) x12.1.2) (((mergeR alS1 alS2).ents).map cec) 128 7, row (.slice x12.2.1 (((mergeR alS1 alS2).ticks).length) x12.2.2) (((mergeR alS1 alS2).ticks).map lsc) 126 2, blk b13 ((vc ((mergeR alS1 alS2).known)) ++ [(.slice x12.1.1 (((mergeR alS1 alS2).ents).length) x12.1.2 : Value), (.slice x12.2.1 (((mergeR alS1 alS2).ticks).length) x12.2.2 : Value) ]) 62] := hs
  refine RW_op (L_assign (V := .int .i64 0) rfl ?_)
  refine RW_nil ?_
  refine W_seq ?_
  refine W_region ?_
  refine RW_op (L_ldW (cs := (vc alS1.known) ++ [(.slice x2.1.1 ((alS1.ents).length) x2.1.2 : Value), (.slice x2.2.1 ((alS1.ticks).length) x2.2.2 : Value) ]) SA_62 hs 2 rfl rfl rfl ?_)
  refine RW_op (L_callX (α := Option Addr × Nat) (vs := [.agg ((vc alS1.known) ++ [(.slice x2.1.1 ((alS1.ents).length) x2.1.2 : Value), (.slice x2.2.1 ((alS1.ticks).length) x2.2.2 : Value) ]).toArray, .int .u16 3]) (V := fun x => .agg #[.int .u16 3, .slice x.1 ([(⟨4, 2⟩ : Line)].length) x.2, .bool false, .int .u32 5]) (Lo := fun x => [row (.slice x.1 [(⟨4, 2⟩ : Line)].length x.2) ([(⟨4, 2⟩ : Line)].map lc) 102 2]) (F := fun _ _ => True) EN_34 rfl rfl ?hc hs fun x17 w16 hs _ => ?_)
  case hc => exact (cViewE_ok _ alS1 x2.1.1 x2.1.2 x2.2.1 x2.2.2 3 (⟨3, [(⟨4, 2⟩ : Line)], false, 5⟩ : Vw) (alV1) alS1_ok (by decide +kernel) (by decide +kernel) (hs.rd 0 rfl) (hs.rd 1 rfl))
  refine RW_op (L_alloc (cs := [.int .u16 0, .slice none 0 0, .bool false, .int .u32 0]) ZV_74 rfl hs fun b18 w19 hs => ?_)
  refine RW_op (L_st (V := .agg #[.int .u16 3, .slice x17.1 ([(⟨4, 2⟩ : Line)].length) x17.2, .bool false, .int .u32 5]) (vs := [.int .u16 3, .slice x17.1 ([(⟨4, 2⟩ : Line)].length) x17.2, .bool false, .int .u32 5]) (cs' := [.int .u16 3, .slice x17.1 ([(⟨4, 2⟩ : Line)].length) x17.2, .bool false, .int .u32 5]) SA_74.1 hs 10 rfl rfl rfl rfl rfl (Nat.le_of_ble_eq_true rfl) (one_cons rfl (one_cons rfl (one_cons rfl (one_cons rfl one_nil)))) (spl_whole rfl) fun w20 hs => ?_)
  replace hs : Own w no w20 [row (.slice x2.1.1 ((alS1.ents).length) x2.1.2) (alS1.ents.map cec) 128 7, row (.slice x2.2.1 ((alS1.ticks).length) x2.2.2) (alS1.ticks.map lsc) 126 2, blk b3 ((vc alS1.known) ++ [(.slice x2.1.1 ((alS1.ents).length) x2.1.2 : Value), (.slice x2.2.1 ((alS1.ticks).length) x2.2.2 : Value) ]) 62, row (.slice x7.1.1 ((alS2.ents).length) x7.1.2) (alS2.ents.map cec) 128 7, row (.slice x7.2.1 ((alS2.ticks).length) x7.2.2) (alS2.ticks.map lsc) 126 2, blk b8 ((vc alS2.known) ++ [(.slice x7.1.1 ((alS2.ents).length) x7.1.2 : Value), (.slice x7.2.1 ((alS2.ticks).length) x7.2.2 : Value) ]) 62, row (.slice x12.1.1 (((mergeR alS1 alS2).ents).length) x12.1.2) (((mergeR alS1 alS2).ents).map cec) 128 7, row (.slice x12.2.1 (((mergeR alS1 alS2).ticks).length) x12.2.2) (((mergeR alS1 alS2).ticks).map lsc) 126 2, blk b13 ((vc ((mergeR alS1 alS2).known)) ++ [(.slice x12.1.1 (((mergeR alS1 alS2).ents).length) x12.1.2 : Value), (.slice x12.2.1 (((mergeR alS1 alS2).ticks).length) x12.2.2 : Value) ]) 62, row (.slice x17.1 ([(⟨4, 2⟩ : Line)].length) x17.2) ([(⟨4, 2⟩ : Line)].map lc) 102 2, blk b18 [.int .u16 3, .slice x17.1 ([(⟨4, 2⟩ : Line)].length) x17.2, .bool false, .int .u32 5] 74] := hs
  refine RW_nil ?_
  refine W_seq ?_
  refine W_region ?_
  refine RW_op (L_move (V := .int .i64 0) rfl ?_)
  refine RW_op (opW_to (V := .bool (decide ((0 : Int) = 0))) (V' := .bool true) (L_eql rfl rfl ⟨rfl, rfl⟩) (congrArg Value.bool (by decide)) ?_)
  refine RW_op (L_move (V := .bool true) rfl ?_)
  refine RW_gy rfl (L_move (V := .int .i64 0) rfl ?_)
  refine RW_gy rfl (opW_to (V := .bool (decide ((0 : Int) = 0))) (V' := .bool true) (L_eql rfl rfl ⟨rfl, rfl⟩) (congrArg Value.bool (by decide)) ?_)
  refine RW_op (L_pick (V := .bool true) rfl rfl ?_)
  refine RW_op (L_move (V := .bool true) rfl ?_)
  refine RW_gy rfl (L_move (V := .int .i64 0) rfl ?_)
  refine RW_gy rfl (opW_to (V := .bool (decide ((0 : Int) = 0))) (V' := .bool true) (L_eql rfl rfl ⟨rfl, rfl⟩) (congrArg Value.bool (by decide)) ?_)
  refine RW_op (L_pick (V := .bool true) rfl rfl ?_)
  refine RW_op (L_move (V := .bool true) rfl ?_)
  refine RW_gy rfl (L_fieldAddr FA_62_1 rfl ?_)
  refine RW_gy rfl (L_ld (V := .slice x2.1.1 ((alS1.ents).length) x2.1.2) S1_59 hs 2 rfl rfl rfl ?_)
  refine RW_gy rfl (L_lenR (n := (alS1.ents).length) UD_59 (hs.rd 0 rfl) (by simp) rfl ?_)
  refine RW_gy rfl (opW_to (V := .bool (decide ((((alS1.ents).length : Nat) : Int) = 1))) (V' := .bool true) (L_eql rfl rfl ⟨rfl, rfl⟩) (congrArg Value.bool (by decide +kernel)) ?_)
  refine RW_op (L_pick (V := .bool true) rfl rfl ?_)
  refine RW_op (L_move (V := .bool true) rfl ?_)
  refine RW_gy rfl (L_fieldAddr FA_62_1 rfl ?_)
  refine RW_gy rfl (L_ld (V := .slice x7.1.1 ((alS2.ents).length) x7.1.2) S1_59 hs 5 rfl rfl rfl ?_)
  refine RW_gy rfl (L_lenR (n := (alS2.ents).length) UD_59 (hs.rd 3 rfl) (by simp) rfl ?_)
  refine RW_gy rfl (opW_to (V := .bool (decide ((((alS2.ents).length : Nat) : Int) = 0))) (V' := .bool true) (L_eql rfl rfl ⟨rfl, rfl⟩) (congrArg Value.bool (by decide +kernel)) ?_)
  refine RW_op (L_pick (V := .bool true) rfl rfl ?_)
  refine RW_op (L_move (V := .bool true) rfl ?_)
  refine RW_gy rfl (L_fieldAddr FA_62_0 rfl ?_)
  refine RW_gy rfl (L_ldA (vs := vc alS2.known) SA_53 hs 5 rfl rfl rfl rfl ?_)
  refine RW_gy rfl (L_build (vs := [(0, .int .u32 2)]) (cs := vc (vset vzero 0 2)) BT_53 (rfl) rfl ?_)
  refine RW_gy rfl (opW_to (V := .bool (decide (alS2.known = vset vzero 0 2))) (V' := .bool true) (L_eqA (xs := vc alS2.known) (ys := vc (vset vzero 0 2)) Try.eqGuardType53 (EQ_53 alS2.known (vset vzero 0 2)) rfl rfl rfl ⟨rfl, rfl⟩) (congrArg Value.bool (by decide +kernel)) ?_)
  refine RW_op (L_pick (V := .bool true) rfl rfl ?_)
  refine RW_op (L_move (V := .bool true) rfl ?_)
  refine RW_gy rfl (L_fieldAddr FA_62_1 rfl ?_)
  refine RW_gy rfl (L_ld (V := .slice x12.1.1 (((mergeR alS1 alS2).ents).length) x12.1.2) S1_59 hs 8 rfl rfl rfl ?_)
  refine RW_gy rfl (L_lenR (n := ((mergeR alS1 alS2).ents).length) UD_59 (hs.rd 6 rfl) (by simp) rfl ?_)
  refine RW_gy rfl (opW_to (V := .bool (decide (((((mergeR alS1 alS2).ents).length : Nat) : Int) = 0))) (V' := .bool true) (L_eql rfl rfl ⟨rfl, rfl⟩) (congrArg Value.bool (by rw [haE]; decide)) ?_)
  refine RW_op (L_pick (V := .bool true) rfl rfl ?_)
  refine RW_op (L_move (V := .bool true) rfl ?_)
  refine RW_gy rfl (L_fieldAddr FA_74_1 rfl ?_)
  refine RW_gy rfl (L_ld (V := .slice x17.1 ([(⟨4, 2⟩ : Line)].length) x17.2) S1_72 hs 10 rfl rfl rfl ?_)
  refine RW_gy rfl (L_lenR (n := [(⟨4, 2⟩ : Line)].length) UD_72 (hs.rd 9 rfl) (by simp) rfl ?_)
  refine RW_gy rfl (opW_to (V := .bool (decide ((([(⟨4, 2⟩ : Line)].length : Nat) : Int) = 1))) (V' := .bool true) (L_eql rfl rfl ⟨rfl, rfl⟩) (congrArg Value.bool (by decide +kernel)) ?_)
  refine RW_op (L_pick (V := .bool true) rfl rfl ?_)
  refine RW_op (L_move (V := .bool true) rfl ?_)
  refine RW_gy rfl (L_fieldAddr FA_74_1 rfl ?_)
  refine RW_gy rfl (L_ld (V := .slice x17.1 ([(⟨4, 2⟩ : Line)].length) x17.2) S1_72 hs 10 rfl rfl rfl ?_)
  refine RW_gy rfl (L_ixR UD_72 SA_102.1 (hs.rd 9 rfl) rfl rfl (by decide) (by simp only [List.length_map, List.length_cons, List.length_nil]; omega) ?_)
  refine RW_gy rfl (L_fieldAddr FA_102_1 rfl ?_)
  refine RW_gy rfl (L_ldR (j := 1) (V := .int .u32 ((gd [(⟨4, 2⟩ : Line)] 0).qty)) 0 S1_51 (hs.rd 9 rfl) (gd_at (by simp only [List.length_cons, List.length_nil]; omega)) rfl rfl (by omega) ?_)
  refine RW_gy rfl (opW_to (V := .bool (decide ((gd [(⟨4, 2⟩ : Line)] 0).qty = 2))) (V' := .bool true) (L_eql rfl rfl ⟨rfl, rfl⟩) (congrArg Value.bool (by decide +kernel)) ?_)
  refine RW_op (L_pick (V := .bool true) rfl rfl ?_)
  refine RW_op (L_move (V := .bool true) rfl ?_)
  refine RW_gy rfl (L_ldW (cs := (vc alS2.known) ++ [(.slice x7.1.1 ((alS2.ents).length) x7.1.2 : Value), (.slice x7.2.1 ((alS2.ticks).length) x7.2.2 : Value) ]) SA_62 hs 5 rfl rfl rfl ?_)
  refine RW_gy rfl (L_callX (α := Option Addr × Nat) (vs := [.agg ((vc alS2.known) ++ [(.slice x7.1.1 ((alS2.ents).length) x7.1.2 : Value), (.slice x7.2.1 ((alS2.ticks).length) x7.2.2 : Value) ]).toArray, .int .u16 3]) (V := fun x => .agg #[.int .u16 3, .slice x.1 (([] : List Line).length) x.2, .bool false, .int .u32 6]) (Lo := fun x => [row (.slice x.1 ([] : List Line).length x.2) (([] : List Line).map lc) 102 2]) (F := fun _ _ => True) EN_34 rfl rfl ?hc hs fun x22 w21 hs _ => ?_)
  case hc => exact (cViewE_ok _ alS2 x7.1.1 x7.1.2 x7.2.1 x7.2.2 3 (⟨3, ([] : List Line), false, 6⟩ : Vw) (alV2) alS2_ok (by decide +kernel) (by decide +kernel) (hs.rd 3 rfl) (hs.rd 4 rfl))
  refine RW_gy rfl (L_fieldV (V := .int .u32 6) (fun w => by simp [Instr.field, part, asAgg]) rfl ?_)
  refine RW_gy rfl (opW_to (V := .bool (decide ((6 : Int) = 6))) (V' := .bool true) (L_eql rfl rfl ⟨rfl, rfl⟩) (congrArg Value.bool (by decide)) ?_)
  refine RW_op (L_pick (V := .bool true) rfl rfl ?_)
  refine RW_op (L_move (V := .bool true) rfl ?_)
  refine RW_gy rfl (L_ldW (cs := (vc alS1.known) ++ [(.slice x2.1.1 ((alS1.ents).length) x2.1.2 : Value), (.slice x2.2.1 ((alS1.ticks).length) x2.2.2 : Value) ]) SA_62 hs 2 rfl rfl rfl ?_)
  refine RW_gy rfl (L_callPV (V' := .bool true) (congrArg Value.bool (by decide +kernel)) (vs := [.agg ((vc alS1.known) ++ [(.slice x2.1.1 ((alS1.ents).length) x2.1.2 : Value), (.slice x2.2.1 ((alS1.ticks).length) x2.2.2 : Value) ]).toArray]) (V := .bool (rightS alS1)) EN_58 rfl rfl ?hc hs fun w23 hs => ?_)
  case hc => exact (cRight_ok _ alS1 x2.1.1 x2.1.2 x2.2.1 x2.2.2 alS1_ok (by decide +kernel) (by decide +kernel) (hs.rd 0 rfl) (hs.rd 1 rfl))
  refine RW_op (L_pick (V := .bool true) rfl rfl ?_)
  refine RW_op (L_move (V := .bool true) rfl ?_)
  refine RW_gy rfl (L_ldW (cs := (vc alS2.known) ++ [(.slice x7.1.1 ((alS2.ents).length) x7.1.2 : Value), (.slice x7.2.1 ((alS2.ticks).length) x7.2.2 : Value) ]) SA_62 hs 5 rfl rfl rfl ?_)
  refine RW_gy rfl (L_callX (vs := [.agg ((vc alS2.known) ++ [(.slice x7.1.1 ((alS2.ents).length) x7.1.2 : Value), (.slice x7.2.1 ((alS2.ticks).length) x7.2.2 : Value) ]).toArray]) (V := fun x : Option Addr × Nat => .slice x.1 (cartsS alS2).length x.2) EN_37 rfl rfl (cCarts_ok _ alS2 x7.1.1 x7.1.2 x7.2.1 x7.2.2 alS2_ok (by decide +kernel) (by decide +kernel) (hs.rd 3 rfl) (hs.rd 4 rfl)) hs fun x24 w25 hs _ => ?_)
  refine RW_gy rfl (L_lenR (n := (cartsS alS2).length) UD_78 (hs.rd 12 rfl) (by simp) rfl ?_)
  refine RW_gy rfl (opW_to (V := .bool (decide ((((cartsS alS2).length : Nat) : Int) = 1))) (V' := .bool true) (L_eql rfl rfl ⟨rfl, rfl⟩) (congrArg Value.bool (by decide +kernel)) ?_)
  refine RW_op (L_pick (V := .bool true) rfl rfl ?_)
  refine RW_op (L_assign (V := .bool true) rfl ?_)
  refine RW_nil ?_
  refine W_ret ?_
  refine ⟨_, res_one (V := .bool true) Try.results26 rfl, ?_⟩
  refine ⟨congrArg Ending.returned ?_, hs.take 0⟩
  rfl
end Tt
end Go.Proofs
namespace Go.Proofs
open Go Go.Vx Go.RowKit
namespace Tt
set_option maxRecDepth 20000 in
set_option maxHeartbeats 4000000 in
theorem theirs_ok (w : World) (s : Sta) (a1 : Option Addr) (c1 : Nat) (a2 : Option Addr) (c2 : Nat) (hle : s.ents.length ≤ 100000) (hlt : s.ticks.length ≤ 100000) (hr1 : Rd w (.slice a1 s.ents.length c1) 7 (s.ents.map cec)) (hr2 : Rd w (.slice a2 s.ticks.length c2) 2 (s.ticks.map lsc)) : Calls Try.prog 29 #[.agg ((vc s.known) ++ [(.slice a1 s.ents.length c1 : Value), (.slice a2 s.ticks.length c2 : Value) ]).toArray] w (fun e w' => ∃ x : (Option Addr × Nat) × (Option Addr × Nat), e = .returned (.agg (vc (s).known ++ [(.slice x.1.1 (s).ents.length x.1.2 : Value), (.slice x.2.1 (s).ticks.length x.2.2 : Value)]).toArray) ∧ Own w no w' [row (.slice x.1.1 (s).ents.length x.1.2) ((s).ents.map cec) 128 7, row (.slice x.2.1 (s).ticks.length x.2.2) ((s).ticks.map lsc) 126 2] ∧ True) := by
  refine calls_of_Wn (n := 40) Try.func29 rfl Try.ntmps29 rfl ?_
  have hs := Own.start w
  refine W_seq ?_
  refine W_region ?_
  refine RW_op (L_box (V := .agg ((vc s.known) ++ [(.slice a1 s.ents.length c1 : Value), (.slice a2 s.ticks.length c2 : Value) ]).toArray) (cs := (vc s.known) ++ [(.slice a1 s.ents.length c1 : Value), (.slice a2 s.ticks.length c2 : Value) ]) rfl rfl hs fun b1 w2 hs => ?_)
  refine RW_op (L_alloc (cs := (vc vzero) ++ [(.slice none 0 0 : Value), (.slice none 0 0 : Value) ]) ZV_62 rfl hs fun b3 w4 hs => ?_)
  refine RW_nil ?_
  refine W_seq ?_
  refine W_region ?_
  refine RW_op (L_fieldAddr FA_57_0 rfl ?_)
  refine RW_op (L_ldA (vs := vc s.known) SA_53 hs 0 rfl rfl rfl rfl ?_)
  refine RW_op (L_buildP (vs := [(0, .agg (vc s.known).toArray)]) (cs := (vc s.known) ++ [(.slice none 0 0 : Value), (.slice none 0 0 : Value) ]) [vc vzero, [(.slice none 0 0 : Value)], [(.slice none 0 0 : Value)]] [vc s.known, [(.slice none 0 0 : Value)], [(.slice none 0 0 : Value)]] BT_62 rfl (rfl) rfl rfl ?_)
  refine RW_op (L_alloc (cs := (vc vzero) ++ [(.slice none 0 0 : Value), (.slice none 0 0 : Value) ]) ZV_62 rfl hs fun b5 w6 hs => ?_)
  refine RW_op (L_st (V := .agg ((vc s.known) ++ [(.slice none 0 0 : Value), (.slice none 0 0 : Value) ]).toArray) (vs := (vc s.known) ++ [(.slice none 0 0 : Value), (.slice none 0 0 : Value) ]) (cs' := (vc s.known) ++ [(.slice none 0 0 : Value), (.slice none 0 0 : Value) ]) SA_62.1 hs 2 rfl rfl rfl rfl rfl (Nat.le_of_ble_eq_true rfl) (one_app (vc_one _) (one_cons rfl (one_cons rfl one_nil))) (spl_whole rfl) fun w7 hs => ?_)
  replace hs : Own w no w7 [blk b1 ((vc s.known) ++ [(.slice a1 s.ents.length c1 : Value), (.slice a2 s.ticks.length c2 : Value) ]) 57, blk b3 ((vc vzero) ++ [(.slice none 0 0 : Value), (.slice none 0 0 : Value) ]) 62, blk b5 ((vc s.known) ++ [(.slice none 0 0 : Value), (.slice none 0 0 : Value) ]) 62] := hs
  refine RW_nil ?_
  refine W_seq ?_
  refine W_seq ?_
  refine W_region ?_
  refine RW_op (L_fieldAddr FA_57_1 rfl ?_)
  refine RW_op (L_ld (V := .slice a1 s.ents.length c1) S1_54 hs 0 rfl rfl rfl ?_)
  refine RW_op (L_lenR (n := s.ents.length) UD_54 (Rd.own' hr1 hs) (by simp) rfl ?_)
  refine RW_op (L_move (V := .int .i64 0) rfl ?_)
  refine RW_nil ?_
  refine W_block ?_
  replace hs := hs.more (row (.slice none 0 0) (List.map cec []) 128 7) (row_nil _ _ _ _)
  refine W_loopI (fun ρ μ ρ' w' => ∃ (ρo : Env) (k1 : Nat) (an1 : Option Addr) (cn1 : Nat) (L1 : List Cen), ρ' = upd (mix [5, 14, 15, 16, 17, 18, 19, 20, 21, 22, 23, 24] ρo ρ) 14 (.int .i64 ((k1 : Nat) : Int)) ∧ (k1 ≤ s.ents.length) ∧ (L1 = s.ents.take k1) ∧ (L1.length ≤ k1) ∧ μ = s.ents.length - k1 ∧ Own w no w' [blk b1 ((vc s.known) ++ [(.slice a1 s.ents.length c1 : Value), (.slice a2 s.ticks.length c2 : Value) ]) 57, blk b3 ((vc vzero) ++ [(.slice none 0 0 : Value), (.slice none 0 0 : Value) ]) 62, blk b5 ((vc s.known) ++ [(.slice an1 L1.length cn1 : Value), (.slice none 0 0 : Value) ]) 62, row (.slice an1 L1.length cn1) (L1.map cec) 128 7]) ?_ ?_
  · exact ⟨_, _, 0, none, 0, [], upd_of (mix_of (ds := [5, 14, 15, 16, 17, 18, 19, 20, 21, 22, 23, 24]) (Agr.refl _ _)) rfl, (by omega), rfl, (Nat.le_refl _), rfl, hs⟩
  · rintro μ ρ' w8 ⟨ρo, k1, an1, cn1, L1, rfl, hk1, hL1, hl1, rfl, hs⟩
    have hb1 := hl1
    refine W_seq ?_
    refine W_region ?_
    refine RW_op (L_lss rfl rfl ?_)
    refine RW_nil ?_
    refine W_seq ?_
    refine W_cond (t := decide (((k1 : Nat) : Int) < ((s.ents.length : Nat) : Int))) rfl (fun c9 => ?_) (fun c9 => ?_)
    ·
      replace c9 := of_decide_eq_true c9
      refine W_skip ?_
      refine W_seq ?_
      refine W_block ?_
      refine W_seq ?_
      refine W_region ?_
      refine RW_op (L_ixR UD_54 SA_134.1 (Rd.own' hr1 hs) rfl rfl (by omega) (by rw [List.length_map]; omega) ?_)
      refine RW_op (L_ldRA (j := 0) (vs := cec (gd s.ents k1)) k1 SA_134 (Rd.own' hr1 hs) (gd_at (by omega)) rfl rfl rfl (by omega) ?_)
      refine RW_op (L_alloc (cs := cec (⟨0, 0, 0, 0, (⟨0, 0⟩ : Dot), 0⟩ : Cen)) ZV_134 rfl hs fun b10 w11 hs => ?_)
      refine RW_op (L_st (V := .agg (cec (gd s.ents k1)).toArray) (vs := cec (gd s.ents k1)) (cs' := cec (gd s.ents k1)) SA_134.1 hs 4 rfl rfl rfl rfl rfl (Nat.le_of_ble_eq_true rfl) (cec_one _) (spl_whole rfl) fun w12 hs => ?_)
      refine RW_nil ?_
      refine W_region ?_
      refine RW_op (L_fieldAddr FA_62_1 rfl ?_)
      refine RW_op (L_ld (V := .slice an1 L1.length cn1) S1_59 hs 2 rfl rfl rfl ?_)
      refine RW_op (L_ldW (cs := cec (gd s.ents k1)) SA_134 hs 4 rfl rfl rfl ?_)
      refine RW_op (L_bs (vals := [.agg (cec (gd s.ents k1)).toArray]) (ls := List.map cec ([gd s.ents k1] : List Cen)) EL_59 rfl rfl rfl (len_map (enc := cec) (fun _ => rfl) _) (one_map cec_one _) (Nat.le_of_ble_eq_true rfl) hs fun b13 w14 hs => ?_)
      refine RW_op (L_appN (ls' := (L1 ++ [gd s.ents k1]).map cec) (n := (L1 ++ [gd s.ents k1]).length) EL_59 hs 3 rfl rfl rfl (hs.rd 5 rfl) (one_map cec_one _) (by simp only [List.length_map, List.length_append, List.length_cons, List.length_nil]; omega) (by simp) (by simp) fun a15 c15 w16 hs => ?_)
      replace hs : Own w no w16 [blk b1 ((vc s.known) ++ [(.slice a1 s.ents.length c1 : Value), (.slice a2 s.ticks.length c2 : Value) ]) 57, blk b3 ((vc vzero) ++ [(.slice none 0 0 : Value), (.slice none 0 0 : Value) ]) 62, blk b5 ((vc s.known) ++ [(.slice an1 L1.length cn1 : Value), (.slice none 0 0 : Value) ]) 62, row (.slice a15 ((L1 ++ [gd s.ents k1]).length) c15) ((L1 ++ [gd s.ents k1]).map cec) 128 7, blk b10 (cec (gd s.ents k1)) 134, row (.slice (some ⟨b13, 0, none⟩) 1 1) ([gd s.ents k1].map cec) 128 7] := hs
      refine RW_op (L_fieldAddr FA_62_1 rfl ?_)
      refine RW_op (L_st1 (V := .slice a15 ((L1 ++ [gd s.ents k1]).length) c15) (cs' := (vc s.known) ++ [(.slice a15 ((L1 ++ [gd s.ents k1]).length) c15 : Value), (.slice none 0 0 : Value) ]) S1_59 hs 2 rfl rfl rfl rfl (Nat.le_of_ble_eq_true rfl) rfl fun w17 hs => ?_)
      refine RW_nil ?_
      refine W_region ?_
      refine RW_op (L_add (a := ((k1 : Nat) : Int)) (b := 1) (c := ((k1 + 1 : Nat) : Int)) rfl rfl (nat_i64 (by omega) (by omega)) ?_)
      refine RW_op (L_move (V := .int .i64 ((k1 + 1 : Nat) : Int)) rfl ?_)
      refine RW_nil ?_
      refine ⟨_, ?_, _, k1 + 1, a15, c15, L1 ++ [gd s.ents k1], upd_of (mix_of (ds := [5, 14, 15, 16, 17, 18, 19, 20, 21, 22, 23, 24]) (by repeat (first | exact Agr.refl _ _ | refine Agr.upd ?_ rfl | refine Agr.mix ?_ rfl))) rfl, (by omega), (by rw [take_snoc (by omega), ← hL1]), (by rw [List.length_append, List.length_singleton]; omega), rfl, hs.take 4⟩
      omega
    ·
      replace c9 := of_decide_eq_false c9
      refine W_exit ?_
      refine W_seq ?_
      refine W_seq ?_
      refine W_region ?_
      refine RW_op (L_fieldAddr FA_57_2 rfl ?_)
      refine RW_op (L_ld (V := .slice a2 s.ticks.length c2) S1_55 hs 0 rfl rfl rfl ?_)
      refine RW_op (L_lenR (n := s.ticks.length) UD_55 (Rd.own' hr2 hs) (by simp) rfl ?_)
      refine RW_op (L_move (V := .int .i64 0) rfl ?_)
      refine RW_nil ?_
      refine W_block ?_
      replace hs := hs.more (row (.slice none 0 0) (List.map lsc []) 126 2) (row_nil _ _ _ _)
      refine W_loopI (fun ρ μ ρ' w' => ∃ (ρo : Env) (k2 : Nat) (an2 : Option Addr) (cn2 : Nat) (L2 : List Lst), ρ' = upd (mix [7, 28, 29, 30, 31, 32, 33, 34, 35, 36, 37, 38] ρo ρ) 28 (.int .i64 ((k2 : Nat) : Int)) ∧ (k2 ≤ s.ticks.length) ∧ (L2 = s.ticks.take k2) ∧ (L2.length ≤ k2) ∧ μ = s.ticks.length - k2 ∧ Own w no w' [blk b1 ((vc s.known) ++ [(.slice a1 s.ents.length c1 : Value), (.slice a2 s.ticks.length c2 : Value) ]) 57, blk b3 ((vc vzero) ++ [(.slice none 0 0 : Value), (.slice none 0 0 : Value) ]) 62, blk b5 ((vc s.known) ++ [(.slice an1 L1.length cn1 : Value), (.slice an2 L2.length cn2 : Value) ]) 62, row (.slice an1 L1.length cn1) (L1.map cec) 128 7, row (.slice an2 L2.length cn2) (L2.map lsc) 126 2]) ?_ ?_
      · exact ⟨_, _, 0, none, 0, [], upd_of (mix_of (ds := [7, 28, 29, 30, 31, 32, 33, 34, 35, 36, 37, 38]) (Agr.refl _ _)) rfl, (by omega), rfl, (Nat.le_refl _), rfl, hs⟩
      · rintro μ ρ' w18 ⟨ρo, k2, an2, cn2, L2, rfl, hk2, hL2, hl2, rfl, hs⟩
        have hb2 := hl2
        refine W_seq ?_
        refine W_region ?_
        refine RW_op (L_lss rfl rfl ?_)
        refine RW_nil ?_
        refine W_seq ?_
        refine W_cond (t := decide (((k2 : Nat) : Int) < ((s.ticks.length : Nat) : Int))) rfl (fun c19 => ?_) (fun c19 => ?_)
        ·
          replace c19 := of_decide_eq_true c19
          refine W_skip ?_
          refine W_seq ?_
          refine W_block ?_
          refine W_seq ?_
          refine W_region ?_
          refine RW_op (L_ixR UD_55 SA_135.1 (Rd.own' hr2 hs) rfl rfl (by omega) (by rw [List.length_map]; omega) ?_)
          refine RW_op (L_ldRA (j := 0) (vs := lsc (gd s.ticks k2)) k2 SA_135 (Rd.own' hr2 hs) (gd_at (by omega)) rfl rfl rfl (by omega) ?_)
          refine RW_op (L_alloc (cs := lsc (⟨0, 0⟩ : Lst)) ZV_135 rfl hs fun b20 w21 hs => ?_)
          refine RW_op (L_st (V := .agg (lsc (gd s.ticks k2)).toArray) (vs := lsc (gd s.ticks k2)) (cs' := lsc (gd s.ticks k2)) SA_135.1 hs 5 rfl rfl rfl rfl rfl (Nat.le_of_ble_eq_true rfl) (lsc_one _) (spl_whole rfl) fun w22 hs => ?_)
          refine RW_nil ?_
          refine W_region ?_
          refine RW_op (L_fieldAddr FA_62_2 rfl ?_)
          refine RW_op (L_ld (V := .slice an2 L2.length cn2) S1_60 hs 2 rfl rfl rfl ?_)
          refine RW_op (L_ldW (cs := lsc (gd s.ticks k2)) SA_135 hs 5 rfl rfl rfl ?_)
          refine RW_op (L_bs (vals := [.agg (lsc (gd s.ticks k2)).toArray]) (ls := List.map lsc ([gd s.ticks k2] : List Lst)) EL_60 rfl rfl rfl (len_map (enc := lsc) (fun _ => rfl) _) (one_map lsc_one _) (Nat.le_of_ble_eq_true rfl) hs fun b23 w24 hs => ?_)
          refine RW_op (L_appN (ls' := (L2 ++ [gd s.ticks k2]).map lsc) (n := (L2 ++ [gd s.ticks k2]).length) EL_60 hs 4 rfl rfl rfl (hs.rd 6 rfl) (one_map lsc_one _) (by simp only [List.length_map, List.length_append, List.length_cons, List.length_nil]; omega) (by simp) (by simp) fun a25 c25 w26 hs => ?_)
          replace hs : Own w no w26 [blk b1 ((vc s.known) ++ [(.slice a1 s.ents.length c1 : Value), (.slice a2 s.ticks.length c2 : Value) ]) 57, blk b3 ((vc vzero) ++ [(.slice none 0 0 : Value), (.slice none 0 0 : Value) ]) 62, blk b5 ((vc s.known) ++ [(.slice an1 L1.length cn1 : Value), (.slice an2 L2.length cn2 : Value) ]) 62, row (.slice an1 L1.length cn1) (L1.map cec) 128 7, row (.slice a25 ((L2 ++ [gd s.ticks k2]).length) c25) ((L2 ++ [gd s.ticks k2]).map lsc) 126 2, blk b20 (lsc (gd s.ticks k2)) 135, row (.slice (some ⟨b23, 0, none⟩) 1 1) ([gd s.ticks k2].map lsc) 126 2] := hs
          refine RW_op (L_fieldAddr FA_62_2 rfl ?_)
          refine RW_op (L_st1 (V := .slice a25 ((L2 ++ [gd s.ticks k2]).length) c25) (cs' := (vc s.known) ++ [(.slice an1 L1.length cn1 : Value), (.slice a25 ((L2 ++ [gd s.ticks k2]).length) c25 : Value) ]) S1_60 hs 2 rfl rfl rfl rfl (Nat.le_of_ble_eq_true rfl) rfl fun w27 hs => ?_)
          refine RW_nil ?_
          refine W_region ?_
          refine RW_op (L_add (a := ((k2 : Nat) : Int)) (b := 1) (c := ((k2 + 1 : Nat) : Int)) rfl rfl (nat_i64 (by omega) (by omega)) ?_)
          refine RW_op (L_move (V := .int .i64 ((k2 + 1 : Nat) : Int)) rfl ?_)
          refine RW_nil ?_
          refine ⟨_, ?_, _, k2 + 1, a25, c25, L2 ++ [gd s.ticks k2], upd_of (mix_of (ds := [7, 28, 29, 30, 31, 32, 33, 34, 35, 36, 37, 38]) (by repeat (first | exact Agr.refl _ _ | refine Agr.upd ?_ rfl | refine Agr.mix ?_ rfl))) rfl, (by omega), (by rw [take_snoc (by omega), ← hL2]), (by rw [List.length_append, List.length_singleton]; omega), rfl, hs.take 5⟩
          omega
        ·
          replace c19 := of_decide_eq_false c19
          refine W_exit ?_
          refine W_seq ?_
          refine W_region ?_
          refine RW_op (L_ldW (cs := (vc s.known) ++ [(.slice an1 L1.length cn1 : Value), (.slice an2 L2.length cn2 : Value) ]) SA_62 hs 2 rfl rfl rfl ?_)
          refine RW_op (L_st (V := .agg ((vc s.known) ++ [(.slice an1 L1.length cn1 : Value), (.slice an2 L2.length cn2 : Value) ]).toArray) (vs := (vc s.known) ++ [(.slice an1 L1.length cn1 : Value), (.slice an2 L2.length cn2 : Value) ]) (cs' := (vc s.known) ++ [(.slice an1 L1.length cn1 : Value), (.slice an2 L2.length cn2 : Value) ]) SA_62.1 hs 1 rfl rfl rfl rfl rfl (Nat.le_of_ble_eq_true rfl) (one_app (vc_one _) (one_cons rfl (one_cons rfl one_nil))) (spl_whole rfl) fun w28 hs => ?_)
          refine RW_nil ?_
          refine W_ret ?_
          refine ⟨_, res_cell (cs := (vc s.known) ++ [(.slice an1 L1.length cn1 : Value), (.slice an2 L2.length cn2 : Value) ]) Try.results29 SA_62 hs 1 rfl rfl rfl, ?_⟩
          have hX : L1 = s.ents := by rw [hL1, List.take_of_length_le (by omega)]
          have hY : L2 = s.ticks := by rw [hL2, List.take_of_length_le (by omega)]
          rw [hX, hY] at hs ⊢
          exact ⟨((an1, cn1), (an2, cn2)), rfl, hs.two 3 4 (by decide) rfl rfl, trivial⟩
end Tt
end Go.Proofs
namespace Go.Proofs
open Go Go.Vx Go.RowKit
namespace Tt
set_option maxRecDepth 20000 in
set_option maxHeartbeats 4000000 in
theorem ahead_ok (w : World) (x y : Cen) : Calls Try.prog 92 #[.agg (cec x).toArray, .agg (cec y).toArray] w (fun e w' => e = .returned (.bool (aheadB x y)) ∧ Own w no w' []) := by
  refine calls_of_Wn (n := 36) Try.func92 rfl Try.ntmps92 rfl ?_
  have hs := Own.start w
  refine W_seq ?_
  refine W_region ?_
  refine RW_op (L_box (V := .agg (cec x).toArray) (cs := cec x) rfl rfl hs fun b1 w2 hs => ?_)
  refine RW_op (L_box (V := .agg (cec y).toArray) (cs := cec y) rfl rfl hs fun b3 w4 hs => ?_)
  refine RW_op (L_assign (V := .bool false) rfl ?_)
  refine RW_nil ?_
  refine W_seq ?_
  refine W_seq ?_
  refine W_region ?_
  refine RW_op (L_fieldAddr FA_134_0 rfl ?_)
  refine RW_op (L_ld (V := .int .u16 x.cart) S1_70 hs 0 rfl rfl rfl ?_)
  refine RW_op (L_fieldAddr FA_134_0 rfl ?_)
  refine RW_op (L_ld (V := .int .u16 y.cart) S1_70 hs 1 rfl rfl rfl ?_)
  refine RW_op (L_neq rfl rfl ?_)
  refine RW_nil ?_
  refine W_cond (t := !decide (x.cart = y.cart)) rfl (fun c5 => ?_) (fun c5 => ?_)
  ·
    replace c5 := not_t c5
    replace c5 := of_decide_eq_false c5
    refine W_seq ?_
    refine W_region ?_
    refine RW_op (L_fieldAddr FA_134_0 rfl ?_)
    refine RW_op (L_ld (V := .int .u16 x.cart) S1_70 hs 0 rfl rfl rfl ?_)
    refine RW_op (L_fieldAddr FA_134_0 rfl ?_)
    refine RW_op (L_ld (V := .int .u16 y.cart) S1_70 hs 1 rfl rfl rfl ?_)
    refine RW_op (L_lss rfl rfl ?_)
    refine RW_op (L_assign (V := .bool (decide (x.cart < y.cart))) rfl ?_)
    refine RW_nil ?_
    refine W_ret ?_
    refine ⟨_, res_one (V := .bool (decide (x.cart < y.cart))) Try.results92 rfl, ?_⟩
    refine ⟨congrArg Ending.returned ?_, hs.take 0⟩
    unfold aheadB; rw [if_neg c5]
  ·
    replace c5 := not_f c5
    replace c5 := of_decide_eq_true c5
    refine W_skip ?_
    refine W_seq ?_
    refine W_seq ?_
    refine W_region ?_
    refine RW_op (L_fieldAddr FA_134_4 rfl ?_)
    refine RW_op (L_fieldAddr FA_96_0 rfl ?_)
    refine RW_op (L_ld (V := .int .u8 x.dot.rep) S1_5 hs 0 rfl rfl rfl ?_)
    refine RW_op (L_fieldAddr FA_134_4 rfl ?_)
    refine RW_op (L_fieldAddr FA_96_0 rfl ?_)
    refine RW_op (L_ld (V := .int .u8 y.dot.rep) S1_5 hs 1 rfl rfl rfl ?_)
    refine RW_op (L_neq rfl rfl ?_)
    refine RW_nil ?_
    refine W_cond (t := !decide (x.dot.rep = y.dot.rep)) rfl (fun c6 => ?_) (fun c6 => ?_)
    ·
      replace c6 := not_t c6
      replace c6 := of_decide_eq_false c6
      refine W_seq ?_
      refine W_region ?_
      refine RW_op (L_fieldAddr FA_134_4 rfl ?_)
      refine RW_op (L_fieldAddr FA_96_0 rfl ?_)
      refine RW_op (L_ld (V := .int .u8 x.dot.rep) S1_5 hs 0 rfl rfl rfl ?_)
      refine RW_op (L_fieldAddr FA_134_4 rfl ?_)
      refine RW_op (L_fieldAddr FA_96_0 rfl ?_)
      refine RW_op (L_ld (V := .int .u8 y.dot.rep) S1_5 hs 1 rfl rfl rfl ?_)
      refine RW_op (L_lss rfl rfl ?_)
      refine RW_op (L_assign (V := .bool (decide (x.dot.rep < y.dot.rep))) rfl ?_)
      refine RW_nil ?_
      refine W_ret ?_
      refine ⟨_, res_one (V := .bool (decide (x.dot.rep < y.dot.rep))) Try.results92 rfl, ?_⟩
      refine ⟨congrArg Ending.returned ?_, hs.take 0⟩
      unfold aheadB; rw [if_pos c5, if_neg c6]
    ·
      replace c6 := not_f c6
      replace c6 := of_decide_eq_true c6
      refine W_skip ?_
      refine W_seq ?_
      refine W_region ?_
      refine RW_op (L_fieldAddr FA_134_4 rfl ?_)
      refine RW_op (L_fieldAddr FA_96_1 rfl ?_)
      refine RW_op (L_ld (V := .int .u32 x.dot.seq) S1_51 hs 0 rfl rfl rfl ?_)
      refine RW_op (L_fieldAddr FA_134_4 rfl ?_)
      refine RW_op (L_fieldAddr FA_96_1 rfl ?_)
      refine RW_op (L_ld (V := .int .u32 y.dot.seq) S1_51 hs 1 rfl rfl rfl ?_)
      refine RW_op (L_lss rfl rfl ?_)
      refine RW_op (L_assign (V := .bool (decide (x.dot.seq < y.dot.seq))) rfl ?_)
      refine RW_nil ?_
      refine W_ret ?_
      refine ⟨_, res_one (V := .bool (decide (x.dot.seq < y.dot.seq))) Try.results92 rfl, ?_⟩
      refine ⟨congrArg Ending.returned ?_, hs.take 0⟩
      unfold aheadB; rw [if_pos c5, if_pos c6]
set_option maxRecDepth 20000 in
set_option maxHeartbeats 4000000 in
theorem rtick_ok (w : World) (s : Sta) (a1 : Option Addr) (c1 : Nat) (a2 : Option Addr) (c2 : Nat) (c : Int) (hr1 : Rd w (.slice a1 s.ents.length c1) 7 (s.ents.map cec)) (hr2 : Rd w (.slice a2 s.ticks.length c2) 2 (s.ticks.map lsc)) : Calls Try.prog 75 #[.agg ((vc s.known) ++ [(.slice a1 s.ents.length c1 : Value), (.slice a2 s.ticks.length c2 : Value) ]).toArray, .int .u16 c] w (fun e w' => e = .returned (.tuple #[.int .u32 ((tickP s.ticks c).getD 0), .bool (tickP s.ticks c).isSome]) ∧ Own w no w' []) := by
  refine calls_of_Wn (n := 28) Try.func75 rfl Try.ntmps75 rfl ?_
  have hs := Own.start w
  have hn2 := hr2.sml
  refine W_seq ?_
  refine W_region ?_
  refine RW_op (L_box (V := .agg ((vc s.known) ++ [(.slice a1 s.ents.length c1 : Value), (.slice a2 s.ticks.length c2 : Value) ]).toArray) (cs := (vc s.known) ++ [(.slice a1 s.ents.length c1 : Value), (.slice a2 s.ticks.length c2 : Value) ]) rfl rfl hs fun b1 w2 hs => ?_)
  refine RW_op (L_assign (V := .int .u32 0) rfl ?_)
  refine RW_op (L_assign (V := .bool false) rfl ?_)
  refine RW_nil ?_
  refine W_seq ?_
  refine W_seq ?_
  refine W_region ?_
  refine RW_op (L_assign (V := .int .i64 0) rfl ?_)
  refine RW_nil ?_
  refine W_block ?_
  refine W_loopI (fun ρ μ ρ' w' => ∃ (ρo : Env) (k : Nat), ρ' = upd (mix [4, 5, 6, 7, 8, 9, 10, 11, 12, 13, 14, 15, 16, 17, 18, 19, 20, 21, 22, 23, 24, 25, 26, 27] ρo ρ) 6 (.int .i64 ((k : Nat) : Int)) ∧ (k ≤ s.ticks.length) ∧ (∀ j : Nat, j < k → decide ((gd s.ticks j).cart = c) = false) ∧ μ = s.ticks.length - k ∧ Own w no w' [blk b1 ((vc s.known) ++ [(.slice a1 s.ents.length c1 : Value), (.slice a2 s.ticks.length c2 : Value) ]) 57]) ?_ ?_
  · exact ⟨_, _, 0, upd_of (mix_of (ds := [4, 5, 6, 7, 8, 9, 10, 11, 12, 13, 14, 15, 16, 17, 18, 19, 20, 21, 22, 23, 24, 25, 26, 27]) (Agr.refl _ _)) rfl, (by omega), (fun j hj => absurd hj (Nat.not_lt_zero j)), rfl, hs⟩
  · rintro μ ρ' w3 ⟨ρo, k, rfl, hk, hno, rfl, hs⟩
    refine W_seq ?_
    refine W_seq ?_
    refine W_region ?_
    refine RW_op (L_move (V := .int .i64 ((k : Nat) : Int)) rfl ?_)
    refine RW_op (L_fieldAddr FA_57_2 rfl ?_)
    refine RW_op (L_ld (V := .slice a2 s.ticks.length c2) S1_55 hs 0 rfl rfl rfl ?_)
    refine RW_op (L_lenR (n := s.ticks.length) UD_55 (Rd.own' hr2 hs) (by simp) rfl ?_)
    refine RW_op (L_lss rfl rfl ?_)
    refine RW_nil ?_
    refine W_cond (t := decide (((k : Nat) : Int) < ((s.ticks.length : Nat) : Int))) rfl (fun c4 => ?_) (fun c4 => ?_)
    ·
      replace c4 := of_decide_eq_true c4
      refine W_skip ?_
      refine W_seq ?_
      refine W_block ?_
      refine W_seq ?_
      refine W_region ?_
      refine RW_op (L_fieldAddr FA_57_2 rfl ?_)
      refine RW_op (L_ld (V := .slice a2 s.ticks.length c2) S1_55 hs 0 rfl rfl rfl ?_)
      refine RW_op (L_move (V := .int .i64 ((k : Nat) : Int)) rfl ?_)
      refine RW_op (L_ixR UD_55 SA_135.1 (Rd.own' hr2 hs) rfl rfl (by omega) (by rw [List.length_map]; omega) ?_)
      refine RW_op (L_fieldAddr FA_135_0 rfl ?_)
      refine RW_op (L_ldR (j := 0) (V := .int .u16 ((gd s.ticks k).cart)) k S1_70 (Rd.own' hr2 hs) (gd_at (by omega)) rfl rfl (by omega) ?_)
      refine RW_op (L_move (V := .int .u16 c) rfl ?_)
      refine RW_op (L_eql rfl rfl ?_)
      refine RW_nil ?_
      refine W_cond (t := decide ((gd s.ticks k).cart = c)) rfl (fun c5 => ?_) (fun c5 => ?_)
      ·
        replace c5 := of_decide_eq_true c5
        refine W_seq ?_
        refine W_region ?_
        refine RW_op (L_fieldAddr FA_57_2 rfl ?_)
        refine RW_op (L_ld (V := .slice a2 s.ticks.length c2) S1_55 hs 0 rfl rfl rfl ?_)
        refine RW_op (L_move (V := .int .i64 ((k : Nat) : Int)) rfl ?_)
        refine RW_op (L_ixR UD_55 SA_135.1 (Rd.own' hr2 hs) rfl rfl (by omega) (by rw [List.length_map]; omega) ?_)
        refine RW_op (L_fieldAddr FA_135_1 rfl ?_)
        refine RW_op (L_ldR (j := 1) (V := .int .u32 ((gd s.ticks k).tick)) k S1_51 (Rd.own' hr2 hs) (gd_at (by omega)) rfl rfl (by omega) ?_)
        refine RW_op (L_assign (V := .int .u32 ((gd s.ticks k).tick)) rfl ?_)
        refine RW_op (L_assign (V := .bool true) rfl ?_)
        refine RW_nil ?_
        refine W_ret ?_
        refine ⟨_, res_two (U := .int .u32 ((gd s.ticks k).tick)) (V := .bool true) Try.results75 rfl rfl, ?_⟩
        refine ⟨congrArg Ending.returned ?_, hs.take 0⟩
        have hX := tickP_at (by omega) hno c5
        rw [hX]; rfl
      ·
        replace c5 := of_decide_eq_false c5
        refine W_skip ?_
        refine W_region ?_
        refine RW_op (L_move (V := .int .i64 ((k : Nat) : Int)) rfl ?_)
        refine RW_op (L_add (a := ((k : Nat) : Int)) (b := 1) (c := ((k + 1 : Nat) : Int)) rfl rfl (nat_i64 (by omega) (by omega)) ?_)
        refine RW_op (L_assign (V := .int .i64 ((k + 1 : Nat) : Int)) rfl ?_)
        refine RW_nil ?_
        refine ⟨_, ?_, _, k + 1, upd_of (mix_of (ds := [4, 5, 6, 7, 8, 9, 10, 11, 12, 13, 14, 15, 16, 17, 18, 19, 20, 21, 22, 23, 24, 25, 26, 27]) (by repeat (first | exact Agr.refl _ _ | refine Agr.upd ?_ rfl | refine Agr.mix ?_ rfl))) rfl, (by omega), (no_step2 hno (decide_eq_false c5)), rfl, hs.take 1⟩
        omega
    ·
      replace c4 := of_decide_eq_false c4
      refine W_exit ?_
      refine W_seq ?_
      refine W_region ?_
      refine RW_op (L_assign (V := .int .u32 0) rfl ?_)
      refine RW_op (L_assign (V := .bool false) rfl ?_)
      refine RW_nil ?_
      refine W_ret ?_
      refine ⟨_, res_two (U := .int .u32 0) (V := .bool false) Try.results75 rfl rfl, ?_⟩
      refine ⟨congrArg Ending.returned ?_, hs.take 0⟩
      have hX := tickP_none (ts := s.ticks) (c := c) fun j hj => hno j (by omega)
      rw [hX]; rfl
set_option maxRecDepth 20000 in
set_option maxHeartbeats 4000000 in
theorem rright_ok (w : World) (s : Sta) (a1 : Option Addr) (c1 : Nat) (a2 : Option Addr) (c2 : Nat) (x : Cen) (hx : CenOk x) (hr1 : Rd w (.slice a1 s.ents.length c1) 7 (s.ents.map cec)) (hr2 : Rd w (.slice a2 s.ticks.length c2) 2 (s.ticks.map lsc)) : Calls Try.prog 91 #[.agg ((vc s.known) ++ [(.slice a1 s.ents.length c1 : Value), (.slice a2 s.ticks.length c2 : Value) ]).toArray, .agg (cec x).toArray] w (fun e w' => e = .returned (.bool (entB s x)) ∧ Own w no w' []) := by
  refine calls_of_Wn (n := 36) Try.func91 rfl Try.ntmps91 rfl ?_
  have hs := Own.start w
  have hdx := hx.2.2.2.2.1
  refine W_seq ?_
  refine W_region ?_
  refine RW_op (L_box (V := .agg ((vc s.known) ++ [(.slice a1 s.ents.length c1 : Value), (.slice a2 s.ticks.length c2 : Value) ]).toArray) (cs := (vc s.known) ++ [(.slice a1 s.ents.length c1 : Value), (.slice a2 s.ticks.length c2 : Value) ]) rfl rfl hs fun b1 w2 hs => ?_)
  refine RW_op (L_box (V := .agg (cec x).toArray) (cs := cec x) rfl rfl hs fun b3 w4 hs => ?_)
  refine RW_op (L_assign (V := .bool false) rfl ?_)
  refine RW_nil ?_
  refine W_seq ?_
  refine W_region ?_
  refine RW_op (L_ldW (cs := (vc s.known) ++ [(.slice a1 s.ents.length c1 : Value), (.slice a2 s.ticks.length c2 : Value) ]) SA_57 hs 0 rfl rfl rfl ?_)
  refine RW_op (L_fieldAddr FA_134_0 rfl ?_)
  refine RW_op (L_ld (V := .int .u16 x.cart) S1_70 hs 1 rfl rfl rfl ?_)
  refine RW_op (L_callP (vs := [.agg ((vc s.known) ++ [(.slice a1 s.ents.length c1 : Value), (.slice a2 s.ticks.length c2 : Value) ]).toArray, .int .u16 x.cart]) (V := .tuple #[.int .u32 ((tickP s.ticks x.cart).getD 0), .bool ((tickP s.ticks x.cart).isSome)]) EN_75 rfl rfl ?hc hs fun w5 hs => ?_)
  case hc => exact (rtick_ok _ s a1 c1 a2 c2 x.cart (Rd.own' hr1 hs) (Rd.own' hr2 hs))
  refine RW_op (L_move (V := .tuple #[.int .u32 ((tickP s.ticks x.cart).getD 0), .bool ((tickP s.ticks x.cart).isSome)]) rfl ?_)
  refine RW_op (L_extract (V := .int .u32 ((tickP s.ticks x.cart).getD 0)) rfl rfl ?_)
  refine RW_op (L_extract (V := .bool ((tickP s.ticks x.cart).isSome)) rfl rfl ?_)
  refine RW_op (L_assign (V := .int .u32 ((tickP s.ticks x.cart).getD 0)) rfl ?_)
  refine RW_op (L_assign (V := .bool ((tickP s.ticks x.cart).isSome)) rfl ?_)
  refine RW_nil ?_
  refine W_seq ?_
  refine W_regO [some 14, some 15, some 16, some 17, some 18, some 19, some 20, some 21, some 22, some 23, some 24, some 25, some 26, some 27, some 28, some 29, some 30, some 31, some 32, some 33, some 34, some 35, some 4] [] [0, 1, 3, 7, 15, 31, 63, 127, 63, 319, 1023, 2047, 4095, 8191, 16383, 32767, 65535, 131071, 262143, 524287, 1048575, 2097151, 4194303] [pv (.bool ((tickP s.ticks x.cart).isSome)), pv (.bool ((tickP s.ticks x.cart).isSome)), pg (((tickP s.ticks x.cart).isSome) == true) (.agg (cec x).toArray), pg (((tickP s.ticks x.cart).isSome) == true) (.bool (shapedB x)), pv (.bool (((tickP s.ticks x.cart).isSome) && (shapedB x))), pv (.bool (((tickP s.ticks x.cart).isSome) && (shapedB x))), pg ((((tickP s.ticks x.cart).isSome) && (shapedB x)) == true) (.pointer (some ⟨b1, 0 + 0, none⟩)), pg ((((tickP s.ticks x.cart).isSome) && (shapedB x)) == true) (.agg (vc s.known).toArray), pg ((((tickP s.ticks x.cart).isSome) && (shapedB x)) == true) (.pointer (some ⟨b3, 0 + 4, none⟩)), pg ((((tickP s.ticks x.cart).isSome) && (shapedB x)) == true) (.agg (dc x.dot).toArray), pg ((((tickP s.ticks x.cart).isSome) && (shapedB x)) == true) (.bool (hasB s.known x.dot)), pv (.bool ((((tickP s.ticks x.cart).isSome) && (shapedB x)) && (hasB s.known x.dot))), pv (.bool ((((tickP s.ticks x.cart).isSome) && (shapedB x)) && (hasB s.known x.dot))), pg (((((tickP s.ticks x.cart).isSome) && (shapedB x)) && (hasB s.known x.dot)) == true) (.pointer (some ⟨b3, 0 + 6, none⟩)), pg (((((tickP s.ticks x.cart).isSome) && (shapedB x)) && (hasB s.known x.dot)) == true) (.int .u64 x.count), pg (((((tickP s.ticks x.cart).isSome) && (shapedB x)) && (hasB s.known x.dot)) == true) (.bool (decide (1 ≤ x.count))), pv (.bool (((((tickP s.ticks x.cart).isSome) && (shapedB x)) && (hasB s.known x.dot)) && (decide (1 ≤ x.count)))), pv (.bool (((((tickP s.ticks x.cart).isSome) && (shapedB x)) && (hasB s.known x.dot)) && (decide (1 ≤ x.count)))), pg ((((((tickP s.ticks x.cart).isSome) && (shapedB x)) && (hasB s.known x.dot)) && (decide (1 ≤ x.count))) == true) (.pointer (some ⟨b3, 0 + 6, none⟩)), pg ((((((tickP s.ticks x.cart).isSome) && (shapedB x)) && (hasB s.known x.dot)) && (decide (1 ≤ x.count))) == true) (.int .u64 x.count), pg ((((((tickP s.ticks x.cart).isSome) && (shapedB x)) && (hasB s.known x.dot)) && (decide (1 ≤ x.count))) == true) (.bool (decide (x.count ≤ 16777217))), pv (.bool ((((((tickP s.ticks x.cart).isSome) && (shapedB x)) && (hasB s.known x.dot)) && (decide (1 ≤ x.count))) && (decide (x.count ≤ 16777217)))), pv (.bool ((((((tickP s.ticks x.cart).isSome) && (shapedB x)) && (hasB s.known x.dot)) && (decide (1 ≤ x.count))) && (decide (x.count ≤ 16777217))))] (fun _ _ => _) [22] (by kernel_rfl) hs ⟨?_, ?_, ?_, ?_, ?_, ?_, ?_, ?_, ?_, ?_, ?_, ?_, ?_, ?_, ?_, ?_, ?_, ?_, ?_, ?_, ?_, ?_, ?_, trivial⟩ ?_
  · exact ob [] [] rfl rfl fun D ρ w hs => L_move (V := .bool ((tickP s.ticks x.cart).isSome)) rfl ⟨rfl, hs⟩
  · exact ob [0] [] rfl rfl fun D ρ w hs => L_move (V := .bool ((tickP s.ticks x.cart).isSome)) rfl ⟨rfl, hs⟩
  · exact obg [1] [] ((tickP s.ticks x.cart).isSome) rfl (fun _ => rfl) rfl (fun _ _ _ _ h => h) fun D ρ w hG hs => L_ldW (cs := cec x) SA_134 hs 1 rfl rfl rfl ⟨rfl, hs⟩
  · exact obgy [1, 2] [] [2] ((tickP s.ticks x.cart).isSome) rfl (fun _ => rfl) rfl (fun _ _ _ _ h => h) (fun hG => ⟨hG, trivial⟩) fun D ρ w hG hs => L_callP (vs := [.agg (cec x).toArray]) (V := .bool (shapedB x)) EN_122 rfl rfl (rShaped_ok _ x hx) hs fun _ hs => ⟨rfl, hs⟩
  · exact ob [1, 3] [] rfl rfl fun D ρ w hs => L_andC (h' := shapedB x) rfl rfl rfl ⟨rfl, hs⟩
  · exact ob [4] [] rfl rfl fun D ρ w hs => L_move (V := .bool (((tickP s.ticks x.cart).isSome) && (shapedB x))) rfl ⟨rfl, hs⟩
  · exact obg [5] [] (((tickP s.ticks x.cart).isSome) && (shapedB x)) rfl (fun _ => rfl) rfl (fun _ _ _ _ h => h) fun D ρ w hG hs => L_fieldAddr FA_57_0 rfl ⟨rfl, hs⟩
  · exact obgy [5, 6] [] [6] (((tickP s.ticks x.cart).isSome) && (shapedB x)) rfl (fun _ => rfl) rfl (fun _ _ _ _ h => h) (fun hG => ⟨hG, trivial⟩) fun D ρ w hG hs => L_ldA (vs := vc s.known) SA_53 hs 0 rfl rfl rfl rfl ⟨rfl, hs⟩
  · exact obg [5] [] (((tickP s.ticks x.cart).isSome) && (shapedB x)) rfl (fun _ => rfl) rfl (fun _ _ _ _ h => h) fun D ρ w hG hs => L_fieldAddr FA_134_4 rfl ⟨rfl, hs⟩
  · exact obgy [5, 8] [] [8] (((tickP s.ticks x.cart).isSome) && (shapedB x)) rfl (fun _ => rfl) rfl (fun _ _ _ _ h => h) (fun hG => ⟨hG, trivial⟩) fun D ρ w hG hs => L_ldA (vs := dc x.dot) SA_96 hs 1 rfl rfl rfl rfl ⟨rfl, hs⟩
  · exact obgy [5, 7, 9] [] [7, 9] (((tickP s.ticks x.cart).isSome) && (shapedB x)) rfl (fun _ => rfl) rfl (fun _ _ _ _ h => h) (fun hG => ⟨hG, hG, trivial⟩) fun D ρ w hG hs => L_callP (vs := [.agg (vc s.known).toArray, .agg (dc x.dot).toArray]) (V := .bool (hasB s.known x.dot)) EN_67 rfl rfl (rHas_ok _ s.known x.dot (by first | assumption | exact dotOk_mk (by omega) (by omega) (by omega) (by omega))) hs fun _ hs => ⟨rfl, hs⟩
  · exact ob [5, 10] [] rfl rfl fun D ρ w hs => L_andC (h' := hasB s.known x.dot) rfl rfl rfl ⟨rfl, hs⟩
  · exact ob [11] [] rfl rfl fun D ρ w hs => L_move (V := .bool ((((tickP s.ticks x.cart).isSome) && (shapedB x)) && (hasB s.known x.dot))) rfl ⟨rfl, hs⟩
  · exact obg [12] [] ((((tickP s.ticks x.cart).isSome) && (shapedB x)) && (hasB s.known x.dot)) rfl (fun _ => rfl) rfl (fun _ _ _ _ h => h) fun D ρ w hG hs => L_fieldAddr FA_134_5 rfl ⟨rfl, hs⟩
  · exact obgy [12, 13] [] [13] ((((tickP s.ticks x.cart).isSome) && (shapedB x)) && (hasB s.known x.dot)) rfl (fun _ => rfl) rfl (fun _ _ _ _ h => h) (fun hG => ⟨hG, trivial⟩) fun D ρ w hG hs => L_ld (V := .int .u64 x.count) S1_92 hs 1 rfl rfl rfl ⟨rfl, hs⟩
  · exact obgy [12, 14] [] [14] ((((tickP s.ticks x.cart).isSome) && (shapedB x)) && (hasB s.known x.dot)) rfl (fun _ => rfl) rfl (fun _ _ _ _ h => h) (fun hG => ⟨hG, trivial⟩) fun D ρ w hG hs => L_geq rfl rfl ⟨rfl, hs⟩
  · exact ob [12, 15] [] rfl rfl fun D ρ w hs => L_andC (h' := decide (1 ≤ x.count)) rfl rfl rfl ⟨rfl, hs⟩
  · exact ob [16] [] rfl rfl fun D ρ w hs => L_move (V := .bool (((((tickP s.ticks x.cart).isSome) && (shapedB x)) && (hasB s.known x.dot)) && (decide (1 ≤ x.count)))) rfl ⟨rfl, hs⟩
  · exact obg [17] [] (((((tickP s.ticks x.cart).isSome) && (shapedB x)) && (hasB s.known x.dot)) && (decide (1 ≤ x.count))) rfl (fun _ => rfl) rfl (fun _ _ _ _ h => h) fun D ρ w hG hs => L_fieldAddr FA_134_5 rfl ⟨rfl, hs⟩
  · exact obgy [17, 18] [] [18] (((((tickP s.ticks x.cart).isSome) && (shapedB x)) && (hasB s.known x.dot)) && (decide (1 ≤ x.count))) rfl (fun _ => rfl) rfl (fun _ _ _ _ h => h) (fun hG => ⟨hG, trivial⟩) fun D ρ w hG hs => L_ld (V := .int .u64 x.count) S1_92 hs 1 rfl rfl rfl ⟨rfl, hs⟩
  · exact obgy [17, 19] [] [19] (((((tickP s.ticks x.cart).isSome) && (shapedB x)) && (hasB s.known x.dot)) && (decide (1 ≤ x.count))) rfl (fun _ => rfl) rfl (fun _ _ _ _ h => h) (fun hG => ⟨hG, trivial⟩) fun D ρ w hG hs => L_leq rfl rfl ⟨rfl, hs⟩
  · exact ob [17, 20] [] rfl rfl fun D ρ w hs => L_andC (h' := decide (x.count ≤ 16777217)) rfl rfl rfl ⟨rfl, hs⟩
  · exact ob [21] [] rfl rfl fun D ρ w hs => L_assign (V := .bool ((((((tickP s.ticks x.cart).isSome) && (shapedB x)) && (hasB s.known x.dot)) && (decide (1 ≤ x.count))) && (decide (x.count ≤ 16777217)))) rfl ⟨rfl, hs⟩
  rintro ρ1 w8 ρ2 hρ hs
  replace hρ : ρ2 = upd (mix [14, 15, 16, 17, 18, 19, 20, 21, 22, 23, 24, 25, 26, 27, 28, 29, 30, 31, 32, 33, 34, 35, 4] ρ1 _) 4 (.bool ((((((tickP s.ticks x.cart).isSome) && (shapedB x)) && (hasB s.known x.dot)) && (decide (1 ≤ x.count))) && (decide (x.count ≤ 16777217)))) := hρ
  subst hρ
  refine W_ret ?_
  refine ⟨_, res_one (V := .bool ((((((tickP s.ticks x.cart).isSome) && (shapedB x)) && (hasB s.known x.dot)) && (decide (1 ≤ x.count))) && (decide (x.count ≤ 16777217)))) Try.results91 rfl, ?_⟩
  refine ⟨congrArg Ending.returned ?_, hs.take 0⟩
  rfl
set_option maxRecDepth 20000 in
set_option maxHeartbeats 4000000 in
theorem rRight8_ok (w : World) (s : Sta) (a1 : Option Addr) (c1 : Nat) (a2 : Option Addr) (c2 : Nat) (hok : StaOk s) (hr1 : Rd w (.slice a1 s.ents.length c1) 7 (s.ents.map cec)) (hr2 : Rd w (.slice a2 s.ticks.length c2) 2 (s.ticks.map lsc)) : Calls Try.prog 46 #[.agg ((vc s.known) ++ [(.slice a1 s.ents.length c1 : Value), (.slice a2 s.ticks.length c2 : Value) ]).toArray] w (fun e w' => e = .returned (.bool (rightS s)) ∧ Own w no w' []) := by
  refine calls_of_Wn (n := 95) Try.func46 rfl Try.ntmps46 rfl ?_
  have hs := Own.start w
  have ⟨hv0, hE0, hT0⟩ := hok
  have hn1 := hr1.sml
  have hn2 := hr2.sml
  refine W_seq ?_
  refine W_region ?_
  refine RW_op (L_box (V := .agg ((vc s.known) ++ [(.slice a1 s.ents.length c1 : Value), (.slice a2 s.ticks.length c2 : Value) ]).toArray) (cs := (vc s.known) ++ [(.slice a1 s.ents.length c1 : Value), (.slice a2 s.ticks.length c2 : Value) ]) rfl rfl hs fun b1 w2 hs => ?_)
  refine RW_op (L_assign (V := .bool false) rfl ?_)
  refine RW_nil ?_
  refine W_seq ?_
  refine W_seq ?_
  refine W_region ?_
  refine RW_op (L_assign (V := .int .i64 0) rfl ?_)
  refine RW_nil ?_
  refine W_block ?_
  refine W_loopI (fun ρ μ ρ' w' => ∃ (ρo : Env) (k : Nat), ρ' = upd (mix [2, 3, 6, 7, 8, 9, 10, 11, 12, 13, 14, 15, 16, 17, 18, 19, 20, 21, 22, 23, 24, 25, 26, 27, 28, 29, 30, 31, 32, 33, 34, 35, 36, 37, 38, 39] ρo ρ) 3 (.int .i64 ((k : Nat) : Int)) ∧ (k ≤ s.ticks.length) ∧ (∀ j : Nat, j < k → badT s.ticks j = false) ∧ μ = s.ticks.length - k ∧ Own w no w' [blk b1 ((vc s.known) ++ [(.slice a1 s.ents.length c1 : Value), (.slice a2 s.ticks.length c2 : Value) ]) 57]) ?_ ?_
  · exact ⟨_, _, 0, upd_of (mix_of (ds := [2, 3, 6, 7, 8, 9, 10, 11, 12, 13, 14, 15, 16, 17, 18, 19, 20, 21, 22, 23, 24, 25, 26, 27, 28, 29, 30, 31, 32, 33, 34, 35, 36, 37, 38, 39]) (Agr.refl _ _)) rfl, (by omega), (fun j hj => absurd hj (Nat.not_lt_zero j)), rfl, hs⟩
  · rintro μ ρ' w3 ⟨ρo, k, rfl, hk, hbt, rfl, hs⟩
    refine W_seq ?_
    refine W_seq ?_
    refine W_region ?_
    refine RW_op (L_move (V := .int .i64 ((k : Nat) : Int)) rfl ?_)
    refine RW_op (L_fieldAddr FA_57_2 rfl ?_)
    refine RW_op (L_ld (V := .slice a2 s.ticks.length c2) S1_55 hs 0 rfl rfl rfl ?_)
    refine RW_op (L_lenR (n := s.ticks.length) UD_55 (Rd.own' hr2 hs) (by simp) rfl ?_)
    refine RW_op (L_lss rfl rfl ?_)
    refine RW_nil ?_
    refine W_cond (t := decide (((k : Nat) : Int) < ((s.ticks.length : Nat) : Int))) rfl (fun c4 => ?_) (fun c4 => ?_)
    ·
      replace c4 := of_decide_eq_true c4
      refine W_skip ?_
      refine W_seq ?_
      refine W_block ?_
      refine W_seq ?_
      refine W_regD HM [some 13, some 14, some 15, some 16, some 17, some 18, some 19, some 20, some 21, some 22, some 23, some 24, some 25, some 26, some 27, some 28, some 29, some 30, some 31, some 32, some 33, some 34, some 35, some 36, some 37, some 38, some 39] [] [0, 1, 0, 7, 15, 31, 63, 127, 255, 511, 1023, 2047, 4095, 2047, 10239, 32767, 65535, 131071, 2047, 264191, 2047, 1837055, 3934207, 8128511, 16777215, 33554431, 67108863] [pv (.pointer (some ⟨b1, 0 + 17, none⟩)), pv (.slice a2 s.ticks.length c2), pv (.int .i64 ((k : Nat) : Int)), pv (.pointer (some ⟨bkS (.slice a2 s.ticks.length c2), ofS (.slice a2 s.ticks.length c2) + ((k : Nat) : Int).toNat * 2, none⟩)), pv (.pointer (some ⟨bkS (.slice a2 s.ticks.length c2), ofS (.slice a2 s.ticks.length c2) + ((k : Nat) : Int).toNat * 2 + 1, none⟩)), pv (.int .u32 ((gd s.ticks k).tick)), pv (.bool (decide (1073741824 < (gd s.ticks k).tick))), pv (.bool (decide (1073741824 < (gd s.ticks k).tick))), pg ((decide (1073741824 < (gd s.ticks k).tick)) == false) (.int .i64 ((k : Nat) : Int)), pg ((decide (1073741824 < (gd s.ticks k).tick)) == false) (.bool (decide (0 < ((k : Nat) : Int)))), pg ((decide (1073741824 < (gd s.ticks k).tick)) == false) (.bool (decide (0 < ((k : Nat) : Int)))), pg (((decide (1073741824 < (gd s.ticks k).tick)) == false) && ((decide (0 < ((k : Nat) : Int))) == true)) (.pointer (some ⟨b1, 0 + 17, none⟩)), pg (((decide (1073741824 < (gd s.ticks k).tick)) == false) && ((decide (0 < ((k : Nat) : Int))) == true)) (.slice a2 s.ticks.length c2), pg (((decide (1073741824 < (gd s.ticks k).tick)) == false) && ((decide (0 < ((k : Nat) : Int))) == true)) (.int .i64 ((k : Nat) : Int)), pg (((decide (1073741824 < (gd s.ticks k).tick)) == false) && ((decide (0 < ((k : Nat) : Int))) == true)) (.int .i64 ((k - 1 : Nat) : Int)), pg (((decide (1073741824 < (gd s.ticks k).tick)) == false) && ((decide (0 < ((k : Nat) : Int))) == true)) (.pointer (some ⟨bkS (.slice a2 s.ticks.length c2), ofS (.slice a2 s.ticks.length c2) + ((k - 1 : Nat) : Int).toNat * 2, none⟩)), pg (((decide (1073741824 < (gd s.ticks k).tick)) == false) && ((decide (0 < ((k : Nat) : Int))) == true)) (.pointer (some ⟨bkS (.slice a2 s.ticks.length c2), ofS (.slice a2 s.ticks.length c2) + ((k - 1 : Nat) : Int).toNat * 2 + 0, none⟩)), pg (((decide (1073741824 < (gd s.ticks k).tick)) == false) && ((decide (0 < ((k : Nat) : Int))) == true)) (.int .u16 ((gd s.ticks (k - 1)).cart)), pg (((decide (1073741824 < (gd s.ticks k).tick)) == false) && ((decide (0 < ((k : Nat) : Int))) == true)) (.pointer (some ⟨b1, 0 + 17, none⟩)), pg (((decide (1073741824 < (gd s.ticks k).tick)) == false) && ((decide (0 < ((k : Nat) : Int))) == true)) (.slice a2 s.ticks.length c2), pg (((decide (1073741824 < (gd s.ticks k).tick)) == false) && ((decide (0 < ((k : Nat) : Int))) == true)) (.int .i64 ((k : Nat) : Int)), pg (((decide (1073741824 < (gd s.ticks k).tick)) == false) && ((decide (0 < ((k : Nat) : Int))) == true)) (.pointer (some ⟨bkS (.slice a2 s.ticks.length c2), ofS (.slice a2 s.ticks.length c2) + ((k : Nat) : Int).toNat * 2, none⟩)), pg (((decide (1073741824 < (gd s.ticks k).tick)) == false) && ((decide (0 < ((k : Nat) : Int))) == true)) (.pointer (some ⟨bkS (.slice a2 s.ticks.length c2), ofS (.slice a2 s.ticks.length c2) + ((k : Nat) : Int).toNat * 2 + 0, none⟩)), pg (((decide (1073741824 < (gd s.ticks k).tick)) == false) && ((decide (0 < ((k : Nat) : Int))) == true)) (.int .u16 ((gd s.ticks k).cart)), pg (((decide (1073741824 < (gd s.ticks k).tick)) == false) && ((decide (0 < ((k : Nat) : Int))) == true)) (.bool (decide ((gd s.ticks k).cart ≤ (gd s.ticks (k - 1)).cart))), pg ((decide (1073741824 < (gd s.ticks k).tick)) == false) (.bool ((decide (0 < ((k : Nat) : Int))) && (decide ((gd s.ticks k).cart ≤ (gd s.ticks (k - 1)).cart)))), pv (.bool ((decide (1073741824 < (gd s.ticks k).tick)) || ((decide (0 < ((k : Nat) : Int))) && (decide ((gd s.ticks k).cart ≤ (gd s.ticks (k - 1)).cart)))))] (fun _ _ => _) [26] (by kernel_rfl) hs ⟨?_, ?_, ?_, ?_, ?_, ?_, ?_, ?_, ?_, ?_, ?_, ?_, ?_, ?_, ?_, ?_, ?_, ?_, ?_, ?_, ?_, ?_, ?_, ?_, ?_, ?_, ?_, trivial⟩ ?_
      · exact ob [] [] rfl rfl fun D ρ w hs => L_fieldAddr FA_57_2 rfl ⟨rfl, hs⟩
      · exact ob [0] [] rfl rfl fun D ρ w hs => L_ld (V := .slice a2 s.ticks.length c2) S1_55 hs 0 rfl rfl rfl ⟨rfl, hs⟩
      · exact ob [] [] rfl rfl fun D ρ w hs => L_move (V := .int .i64 ((k : Nat) : Int)) rfl ⟨rfl, hs⟩
      · exact ob [1, 2] [] rfl rfl fun D ρ w hs => L_ixR UD_55 SA_135.1 (Rd.own' hr2 hs) rfl rfl (by omega) (by rw [List.length_map]; omega) ⟨rfl, hs⟩
      · exact ob [3] [] rfl rfl fun D ρ w hs => L_fieldAddr FA_135_1 rfl ⟨rfl, hs⟩
      · exact ob [4] [] rfl rfl fun D ρ w hs => L_ldR (j := 1) (V := .int .u32 ((gd s.ticks k).tick)) k S1_51 (Rd.own' hr2 hs) (gd_at (by omega)) rfl rfl (by omega) ⟨rfl, hs⟩
      · exact ob [5] [] rfl rfl fun D ρ w hs => L_gtr rfl rfl ⟨rfl, hs⟩
      · exact ob [6] [] rfl rfl fun D ρ w hs => L_move (V := .bool (decide (1073741824 < (gd s.ticks k).tick))) rfl ⟨rfl, hs⟩
      · exact obg [7] [] (decide (1073741824 < (gd s.ticks k).tick)) rfl (fun _ => rfl) rfl (fun _ _ _ _ h => h) fun D ρ w hG hs => L_move (V := .int .i64 ((k : Nat) : Int)) rfl ⟨rfl, hs⟩
      · exact obgy [7, 8] [] [8] (decide (1073741824 < (gd s.ticks k).tick)) rfl (fun _ => rfl) rfl (fun _ _ _ _ h => h) (fun hG => ⟨hG, trivial⟩) fun D ρ w hG hs => L_gtr rfl rfl ⟨rfl, hs⟩
      · exact obgy [7, 9] [] [9] (decide (1073741824 < (gd s.ticks k).tick)) rfl (fun _ => rfl) rfl (fun _ _ _ _ h => h) (fun hG => ⟨hG, trivial⟩) fun D ρ w hG hs => L_move (V := .bool (decide (0 < ((k : Nat) : Int)))) rfl ⟨rfl, hs⟩
      · exact obg [10] [] (decide (0 < ((k : Nat) : Int))) rfl (fun _ => rfl) rfl (fun _ _ _ _ h => h) fun D ρ w hG hs => L_fieldAddr FA_57_2 rfl ⟨rfl, hs⟩
      · exact obgy [10, 11] [] [11] (decide (0 < ((k : Nat) : Int))) rfl (fun _ => rfl) rfl (fun _ _ _ _ h => h) (fun hG => ⟨hG, trivial⟩) fun D ρ w hG hs => L_ld (V := .slice a2 s.ticks.length c2) S1_55 hs 0 rfl rfl rfl ⟨rfl, hs⟩
      · exact obg [10] [] (decide (0 < ((k : Nat) : Int))) rfl (fun _ => rfl) rfl (fun _ _ _ _ h => h) fun D ρ w hG hs => L_move (V := .int .i64 ((k : Nat) : Int)) rfl ⟨rfl, hs⟩
      · refine obgy [10, 13] [] [13] (decide (0 < ((k : Nat) : Int))) rfl (fun _ => rfl) rfl (fun _ _ _ _ h => h) (fun hG => ⟨hG, trivial⟩) fun D ρ w hG hs => ?_
        have hgd0 := of_decide_eq_false (eq_of_beq (and_l (hG)))
        have hgd1 := of_decide_eq_true (eq_of_beq (and_r (hG)))
        exact L_sub (a := ((k : Nat) : Int)) (b := 1) (c := ((k - 1 : Nat) : Int)) rfl rfl (nat_i64 (by omega) (by omega)) ⟨rfl, hs⟩
      · refine obgy [10, 12, 14] [] [12, 14] (decide (0 < ((k : Nat) : Int))) rfl (fun _ => rfl) rfl (fun _ _ _ _ h => h) (fun hG => ⟨hG, hG, trivial⟩) fun D ρ w hG hs => ?_
        have hgd0 := of_decide_eq_false (eq_of_beq (and_l (hG)))
        have hgd1 := of_decide_eq_true (eq_of_beq (and_r (hG)))
        exact L_ixR UD_55 SA_135.1 (Rd.own' hr2 hs) rfl rfl (by omega) (by rw [List.length_map]; omega) ⟨rfl, hs⟩
      · exact obgy [10, 15] [] [15] (decide (0 < ((k : Nat) : Int))) rfl (fun _ => rfl) rfl (fun _ _ _ _ h => h) (fun hG => ⟨hG, trivial⟩) fun D ρ w hG hs => L_fieldAddr FA_135_0 rfl ⟨rfl, hs⟩
      · refine obgy [10, 16] [] [16] (decide (0 < ((k : Nat) : Int))) rfl (fun _ => rfl) rfl (fun _ _ _ _ h => h) (fun hG => ⟨hG, trivial⟩) fun D ρ w hG hs => ?_
        have hgd0 := of_decide_eq_false (eq_of_beq (and_l (hG)))
        have hgd1 := of_decide_eq_true (eq_of_beq (and_r (hG)))
        exact L_ldR (j := 0) (V := .int .u16 ((gd s.ticks (k - 1)).cart)) (k - 1) S1_70 (Rd.own' hr2 hs) (gd_at (by omega)) rfl rfl (by omega) ⟨rfl, hs⟩
      · exact obg [10] [] (decide (0 < ((k : Nat) : Int))) rfl (fun _ => rfl) rfl (fun _ _ _ _ h => h) fun D ρ w hG hs => L_fieldAddr FA_57_2 rfl ⟨rfl, hs⟩
      · exact obgy [10, 18] [] [18] (decide (0 < ((k : Nat) : Int))) rfl (fun _ => rfl) rfl (fun _ _ _ _ h => h) (fun hG => ⟨hG, trivial⟩) fun D ρ w hG hs => L_ld (V := .slice a2 s.ticks.length c2) S1_55 hs 0 rfl rfl rfl ⟨rfl, hs⟩
      · exact obg [10] [] (decide (0 < ((k : Nat) : Int))) rfl (fun _ => rfl) rfl (fun _ _ _ _ h => h) fun D ρ w hG hs => L_move (V := .int .i64 ((k : Nat) : Int)) rfl ⟨rfl, hs⟩
      · refine obgy [10, 19, 20] [] [19, 20] (decide (0 < ((k : Nat) : Int))) rfl (fun _ => rfl) rfl (fun _ _ _ _ h => h) (fun hG => ⟨hG, hG, trivial⟩) fun D ρ w hG hs => ?_
        have hgd0 := of_decide_eq_false (eq_of_beq (and_l (hG)))
        have hgd1 := of_decide_eq_true (eq_of_beq (and_r (hG)))
        exact L_ixR UD_55 SA_135.1 (Rd.own' hr2 hs) rfl rfl (by omega) (by rw [List.length_map]; omega) ⟨rfl, hs⟩
      · exact obgy [10, 21] [] [21] (decide (0 < ((k : Nat) : Int))) rfl (fun _ => rfl) rfl (fun _ _ _ _ h => h) (fun hG => ⟨hG, trivial⟩) fun D ρ w hG hs => L_fieldAddr FA_135_0 rfl ⟨rfl, hs⟩
      · refine obgy [10, 22] [] [22] (decide (0 < ((k : Nat) : Int))) rfl (fun _ => rfl) rfl (fun _ _ _ _ h => h) (fun hG => ⟨hG, trivial⟩) fun D ρ w hG hs => ?_
        have hgd0 := of_decide_eq_false (eq_of_beq (and_l (hG)))
        have hgd1 := of_decide_eq_true (eq_of_beq (and_r (hG)))
        exact L_ldR (j := 0) (V := .int .u16 ((gd s.ticks k).cart)) k S1_70 (Rd.own' hr2 hs) (gd_at (by omega)) rfl rfl (by omega) ⟨rfl, hs⟩
      · exact obgy [10, 17, 23] [] [17, 23] (decide (0 < ((k : Nat) : Int))) rfl (fun _ => rfl) rfl (fun _ _ _ _ h => h) (fun hG => ⟨hG, hG, trivial⟩) fun D ρ w hG hs => L_geq rfl rfl ⟨rfl, hs⟩
      · exact obgy [7, 10, 24] [] [10] (decide (1073741824 < (gd s.ticks k).tick)) rfl (fun _ => rfl) rfl (fun _ _ _ _ h => h) (fun hG => ⟨hG, trivial⟩) fun D ρ w hG hs => L_andN (h' := decide ((gd s.ticks k).cart ≤ (gd s.ticks (k - 1)).cart)) (G := ((decide (1073741824 < (gd s.ticks k).tick)) == false)) hG rfl rfl rfl ⟨rfl, hs⟩
      · exact ob [7, 25] [] rfl rfl fun D ρ w hs => L_orC (h' := (decide (0 < ((k : Nat) : Int))) && (decide ((gd s.ticks k).cart ≤ (gd s.ticks (k - 1)).cart))) rfl rfl rfl ⟨rfl, hs⟩
      rintro ρ1 w5 ρ2 hρ hs
      replace hρ : ρ2 = upd (mix [13, 14, 15, 16, 17, 18, 19, 20, 21, 22, 23, 24, 25, 26, 27, 28, 29, 30, 31, 32, 33, 34, 35, 36, 37, 38, 39] ρ1 _) 39 (.bool ((decide (1073741824 < (gd s.ticks k).tick)) || ((decide (0 < ((k : Nat) : Int))) && (decide ((gd s.ticks k).cart ≤ (gd s.ticks (k - 1)).cart))))) := hρ
      subst hρ
      refine W_cond (t := (decide (1073741824 < (gd s.ticks k).tick)) || ((decide (0 < ((k : Nat) : Int))) && (decide ((gd s.ticks k).cart ≤ (gd s.ticks (k - 1)).cart)))) rfl (fun c6 => ?_) (fun c6 => ?_)
      ·
        refine W_seq ?_
        refine W_region ?_
        refine RW_op (L_assign (V := .bool false) rfl ?_)
        refine RW_nil ?_
        refine W_ret ?_
        refine ⟨_, res_one (V := .bool false) Try.results46 rfl, ?_⟩
        refine ⟨congrArg Ending.returned ?_, hs.take 0⟩
        exact congrArg Value.bool (right_badT (i := k) (by omega) (by unfold badT; have hq := c6; simpa using hq)).symm
      ·
        have c6r := or_r c6
        replace c6 := or_l c6
        replace c6 := of_decide_eq_false c6
        refine W_skip ?_
        refine W_region ?_
        refine RW_op (L_move (V := .int .i64 ((k : Nat) : Int)) rfl ?_)
        refine RW_op (L_add (a := ((k : Nat) : Int)) (b := 1) (c := ((k + 1 : Nat) : Int)) rfl rfl (nat_i64 (by omega) (by omega)) ?_)
        refine RW_op (L_assign (V := .int .i64 ((k + 1 : Nat) : Int)) rfl ?_)
        refine RW_nil ?_
        refine ⟨_, ?_, _, k + 1, upd_of (mix_of (ds := [2, 3, 6, 7, 8, 9, 10, 11, 12, 13, 14, 15, 16, 17, 18, 19, 20, 21, 22, 23, 24, 25, 26, 27, 28, 29, 30, 31, 32, 33, 34, 35, 36, 37, 38, 39]) (by repeat (first | exact Agr.refl _ _ | refine Agr.upd ?_ rfl | refine Agr.mix ?_ rfl))) rfl, (by omega), (no_step2 hbt (by unfold badT; rw [decide_eq_false c6, Bool.false_or]; have hq := c6r; simpa using hq)), rfl, hs.take 1⟩
        omega
    ·
      replace c4 := of_decide_eq_false c4
      refine W_exit ?_
      refine W_seq ?_
      refine W_seq ?_
      refine W_region ?_
      refine RW_op (L_assign (V := .int .i64 0) rfl ?_)
      refine RW_nil ?_
      refine W_block ?_
      refine W_loopI (fun ρ μ ρ' w' => ∃ (ρo : Env) (k2 : Nat), ρ' = upd (mix [2, 4, 5, 40, 41, 42, 43, 44, 45, 46, 47, 48, 49, 50, 51, 52, 53, 54, 55, 56, 57, 58, 59, 60, 61, 62, 63, 64, 65, 66, 67, 68, 69, 70, 71, 72, 73, 74, 75, 76, 77, 78, 79, 80, 81, 82, 83, 84, 85, 86, 87, 88, 89, 90, 91] ρo ρ) 4 (.int .i64 ((k2 : Nat) : Int)) ∧ (k2 ≤ s.ents.length) ∧ (∀ j : Nat, j < k2 → badE s j = false) ∧ μ = s.ents.length - k2 ∧ Own w no w' [blk b1 ((vc s.known) ++ [(.slice a1 s.ents.length c1 : Value), (.slice a2 s.ticks.length c2 : Value) ]) 57]) ?_ ?_
      · exact ⟨_, _, 0, upd_of (mix_of (ds := [2, 4, 5, 40, 41, 42, 43, 44, 45, 46, 47, 48, 49, 50, 51, 52, 53, 54, 55, 56, 57, 58, 59, 60, 61, 62, 63, 64, 65, 66, 67, 68, 69, 70, 71, 72, 73, 74, 75, 76, 77, 78, 79, 80, 81, 82, 83, 84, 85, 86, 87, 88, 89, 90, 91]) (Agr.refl _ _)) rfl, (by omega), (fun j hj => absurd hj (Nat.not_lt_zero j)), rfl, hs⟩
      · rintro μ ρ' w7 ⟨ρo, k2, rfl, hk2, hbe, rfl, hs⟩
        refine W_seq ?_
        refine W_seq ?_
        refine W_region ?_
        refine RW_op (L_move (V := .int .i64 ((k2 : Nat) : Int)) rfl ?_)
        refine RW_op (L_fieldAddr FA_57_1 rfl ?_)
        refine RW_op (L_ld (V := .slice a1 s.ents.length c1) S1_54 hs 0 rfl rfl rfl ?_)
        refine RW_op (L_lenR (n := s.ents.length) UD_54 (Rd.own' hr1 hs) (by simp) rfl ?_)
        refine RW_op (L_lss rfl rfl ?_)
        refine RW_nil ?_
        refine W_cond (t := decide (((k2 : Nat) : Int) < ((s.ents.length : Nat) : Int))) rfl (fun c8 => ?_) (fun c8 => ?_)
        ·
          replace c8 := of_decide_eq_true c8
          refine W_skip ?_
          refine W_seq ?_
          refine W_block ?_
          refine W_seq ?_
          refine W_seq ?_
          refine W_regD HM [some 47, some 48, some 49, some 50, some 51, some 52, some 53, some 54, some 55, some 56, some 57, some 58, some 59, some 60, some 61, some 62, some 63, some 64, some 65, some 66, some 67, some 68, some 69, some 70, some 71, some 72, some 73] [] [0, 0, 2, 0, 14, 30, 63, 127, 255, 511, 1023, 2047, 4095, 8191, 4095, 20479, 65535, 131071, 4095, 266239, 4095, 1839103, 3936255, 8388607, 16777215, 33554431, 67108863] [pv (.agg ((vc s.known) ++ [(.slice a1 s.ents.length c1 : Value), (.slice a2 s.ticks.length c2 : Value) ]).toArray), pv (.pointer (some ⟨b1, 0 + 16, none⟩)), pv (.slice a1 s.ents.length c1), pv (.int .i64 ((k2 : Nat) : Int)), pv (.pointer (some ⟨bkS (.slice a1 s.ents.length c1), ofS (.slice a1 s.ents.length c1) + ((k2 : Nat) : Int).toNat * 7, none⟩)), pv (.agg (cec (gd s.ents k2)).toArray), pv (.bool (entB s (gd s.ents k2))), pv (.bool (!(entB s (gd s.ents k2)))), pv (.bool (!(entB s (gd s.ents k2)))), pg ((!(entB s (gd s.ents k2))) == false) (.int .i64 ((k2 : Nat) : Int)), pg ((!(entB s (gd s.ents k2))) == false) (.bool (decide (0 < ((k2 : Nat) : Int)))), pg ((!(entB s (gd s.ents k2))) == false) (.bool (decide (0 < ((k2 : Nat) : Int)))), pg (((!(entB s (gd s.ents k2))) == false) && ((decide (0 < ((k2 : Nat) : Int))) == true)) (.pointer (some ⟨b1, 0 + 16, none⟩)), pg (((!(entB s (gd s.ents k2))) == false) && ((decide (0 < ((k2 : Nat) : Int))) == true)) (.slice a1 s.ents.length c1), pg (((!(entB s (gd s.ents k2))) == false) && ((decide (0 < ((k2 : Nat) : Int))) == true)) (.int .i64 ((k2 : Nat) : Int)), pg (((!(entB s (gd s.ents k2))) == false) && ((decide (0 < ((k2 : Nat) : Int))) == true)) (.int .i64 ((k2 - 1 : Nat) : Int)), pg (((!(entB s (gd s.ents k2))) == false) && ((decide (0 < ((k2 : Nat) : Int))) == true)) (.pointer (some ⟨bkS (.slice a1 s.ents.length c1), ofS (.slice a1 s.ents.length c1) + ((k2 - 1 : Nat) : Int).toNat * 7, none⟩)), pg (((!(entB s (gd s.ents k2))) == false) && ((decide (0 < ((k2 : Nat) : Int))) == true)) (.agg (cec (gd s.ents (k2 - 1))).toArray), pg (((!(entB s (gd s.ents k2))) == false) && ((decide (0 < ((k2 : Nat) : Int))) == true)) (.pointer (some ⟨b1, 0 + 16, none⟩)), pg (((!(entB s (gd s.ents k2))) == false) && ((decide (0 < ((k2 : Nat) : Int))) == true)) (.slice a1 s.ents.length c1), pg (((!(entB s (gd s.ents k2))) == false) && ((decide (0 < ((k2 : Nat) : Int))) == true)) (.int .i64 ((k2 : Nat) : Int)), pg (((!(entB s (gd s.ents k2))) == false) && ((decide (0 < ((k2 : Nat) : Int))) == true)) (.pointer (some ⟨bkS (.slice a1 s.ents.length c1), ofS (.slice a1 s.ents.length c1) + ((k2 : Nat) : Int).toNat * 7, none⟩)), pg (((!(entB s (gd s.ents k2))) == false) && ((decide (0 < ((k2 : Nat) : Int))) == true)) (.agg (cec (gd s.ents k2)).toArray), pg (((!(entB s (gd s.ents k2))) == false) && ((decide (0 < ((k2 : Nat) : Int))) == true)) (.bool (aheadB (gd s.ents (k2 - 1)) (gd s.ents k2))), pg (((!(entB s (gd s.ents k2))) == false) && ((decide (0 < ((k2 : Nat) : Int))) == true)) (.bool (!(aheadB (gd s.ents (k2 - 1)) (gd s.ents k2)))), pg ((!(entB s (gd s.ents k2))) == false) (.bool ((decide (0 < ((k2 : Nat) : Int))) && (!(aheadB (gd s.ents (k2 - 1)) (gd s.ents k2))))), pv (.bool ((!(entB s (gd s.ents k2))) || ((decide (0 < ((k2 : Nat) : Int))) && (!(aheadB (gd s.ents (k2 - 1)) (gd s.ents k2))))))] (fun _ _ => _) [26] (by kernel_rfl) hs ⟨?_, ?_, ?_, ?_, ?_, ?_, ?_, ?_, ?_, ?_, ?_, ?_, ?_, ?_, ?_, ?_, ?_, ?_, ?_, ?_, ?_, ?_, ?_, ?_, ?_, ?_, ?_, trivial⟩ ?_
          · exact ob [] [] rfl rfl fun D ρ w hs => L_ldW (cs := (vc s.known) ++ [(.slice a1 s.ents.length c1 : Value), (.slice a2 s.ticks.length c2 : Value) ]) SA_57 hs 0 rfl rfl rfl ⟨rfl, hs⟩
          · exact ob [] [] rfl rfl fun D ρ w hs => L_fieldAddr FA_57_1 rfl ⟨rfl, hs⟩
          · exact ob [1] [] rfl rfl fun D ρ w hs => L_ld (V := .slice a1 s.ents.length c1) S1_54 hs 0 rfl rfl rfl ⟨rfl, hs⟩
          · exact ob [] [] rfl rfl fun D ρ w hs => L_move (V := .int .i64 ((k2 : Nat) : Int)) rfl ⟨rfl, hs⟩
          · exact ob [2, 3] [] rfl rfl fun D ρ w hs => L_ixR UD_54 SA_134.1 (Rd.own' hr1 hs) rfl rfl (by omega) (by rw [List.length_map]; omega) ⟨rfl, hs⟩
          · exact ob [4] [] rfl rfl fun D ρ w hs => L_ldRA (j := 0) (vs := cec (gd s.ents k2)) k2 SA_134 (Rd.own' hr1 hs) (gd_at (by omega)) rfl rfl rfl (by omega) ⟨rfl, hs⟩
          · exact ob [0, 5] [] rfl rfl fun D ρ w hs => L_callP (vs := [.agg ((vc s.known) ++ [(.slice a1 s.ents.length c1 : Value), (.slice a2 s.ticks.length c2 : Value) ]).toArray, .agg (cec (gd s.ents k2)).toArray]) (V := .bool (entB s (gd s.ents k2))) EN_91 rfl rfl (rright_ok _ s a1 c1 a2 c2 (gd s.ents k2) (hE0 _ (gd_mem (by omega))) (Rd.own' hr1 hs) (Rd.own' hr2 hs)) hs fun _ hs => ⟨rfl, hs⟩
          · exact ob [6] [] rfl rfl fun D ρ w hs => L_not rfl ⟨rfl, hs⟩
          · exact ob [7] [] rfl rfl fun D ρ w hs => L_move (V := .bool (!(entB s (gd s.ents k2)))) rfl ⟨rfl, hs⟩
          · exact obg [8] [] (!(entB s (gd s.ents k2))) rfl (fun _ => rfl) rfl (fun _ _ _ _ h => h) fun D ρ w hG hs => L_move (V := .int .i64 ((k2 : Nat) : Int)) rfl ⟨rfl, hs⟩
          · exact obgy [8, 9] [] [9] (!(entB s (gd s.ents k2))) rfl (fun _ => rfl) rfl (fun _ _ _ _ h => h) (fun hG => ⟨hG, trivial⟩) fun D ρ w hG hs => L_gtr rfl rfl ⟨rfl, hs⟩
          · exact obgy [8, 10] [] [10] (!(entB s (gd s.ents k2))) rfl (fun _ => rfl) rfl (fun _ _ _ _ h => h) (fun hG => ⟨hG, trivial⟩) fun D ρ w hG hs => L_move (V := .bool (decide (0 < ((k2 : Nat) : Int)))) rfl ⟨rfl, hs⟩
          · exact obg [11] [] (decide (0 < ((k2 : Nat) : Int))) rfl (fun _ => rfl) rfl (fun _ _ _ _ h => h) fun D ρ w hG hs => L_fieldAddr FA_57_1 rfl ⟨rfl, hs⟩
          · exact obgy [11, 12] [] [12] (decide (0 < ((k2 : Nat) : Int))) rfl (fun _ => rfl) rfl (fun _ _ _ _ h => h) (fun hG => ⟨hG, trivial⟩) fun D ρ w hG hs => L_ld (V := .slice a1 s.ents.length c1) S1_54 hs 0 rfl rfl rfl ⟨rfl, hs⟩
          · exact obg [11] [] (decide (0 < ((k2 : Nat) : Int))) rfl (fun _ => rfl) rfl (fun _ _ _ _ h => h) fun D ρ w hG hs => L_move (V := .int .i64 ((k2 : Nat) : Int)) rfl ⟨rfl, hs⟩
          · refine obgy [11, 14] [] [14] (decide (0 < ((k2 : Nat) : Int))) rfl (fun _ => rfl) rfl (fun _ _ _ _ h => h) (fun hG => ⟨hG, trivial⟩) fun D ρ w hG hs => ?_
            have hgd1 := of_decide_eq_true (eq_of_beq (and_r (hG)))
            exact L_sub (a := ((k2 : Nat) : Int)) (b := 1) (c := ((k2 - 1 : Nat) : Int)) rfl rfl (nat_i64 (by omega) (by omega)) ⟨rfl, hs⟩
          · refine obgy [11, 13, 15] [] [13, 15] (decide (0 < ((k2 : Nat) : Int))) rfl (fun _ => rfl) rfl (fun _ _ _ _ h => h) (fun hG => ⟨hG, hG, trivial⟩) fun D ρ w hG hs => ?_
            have hgd1 := of_decide_eq_true (eq_of_beq (and_r (hG)))
            exact L_ixR UD_54 SA_134.1 (Rd.own' hr1 hs) rfl rfl (by omega) (by rw [List.length_map]; omega) ⟨rfl, hs⟩
          · refine obgy [11, 16] [] [16] (decide (0 < ((k2 : Nat) : Int))) rfl (fun _ => rfl) rfl (fun _ _ _ _ h => h) (fun hG => ⟨hG, trivial⟩) fun D ρ w hG hs => ?_
            have hgd1 := of_decide_eq_true (eq_of_beq (and_r (hG)))
            exact L_ldRA (j := 0) (vs := cec (gd s.ents (k2 - 1))) (k2 - 1) SA_134 (Rd.own' hr1 hs) (gd_at (by omega)) rfl rfl rfl (by omega) ⟨rfl, hs⟩
          · exact obg [11] [] (decide (0 < ((k2 : Nat) : Int))) rfl (fun _ => rfl) rfl (fun _ _ _ _ h => h) fun D ρ w hG hs => L_fieldAddr FA_57_1 rfl ⟨rfl, hs⟩
          · exact obgy [11, 18] [] [18] (decide (0 < ((k2 : Nat) : Int))) rfl (fun _ => rfl) rfl (fun _ _ _ _ h => h) (fun hG => ⟨hG, trivial⟩) fun D ρ w hG hs => L_ld (V := .slice a1 s.ents.length c1) S1_54 hs 0 rfl rfl rfl ⟨rfl, hs⟩
          · exact obg [11] [] (decide (0 < ((k2 : Nat) : Int))) rfl (fun _ => rfl) rfl (fun _ _ _ _ h => h) fun D ρ w hG hs => L_move (V := .int .i64 ((k2 : Nat) : Int)) rfl ⟨rfl, hs⟩
          · refine obgy [11, 19, 20] [] [19, 20] (decide (0 < ((k2 : Nat) : Int))) rfl (fun _ => rfl) rfl (fun _ _ _ _ h => h) (fun hG => ⟨hG, hG, trivial⟩) fun D ρ w hG hs => ?_
            have hgd1 := of_decide_eq_true (eq_of_beq (and_r (hG)))
            exact L_ixR UD_54 SA_134.1 (Rd.own' hr1 hs) rfl rfl (by omega) (by rw [List.length_map]; omega) ⟨rfl, hs⟩
          · refine obgy [11, 21] [] [21] (decide (0 < ((k2 : Nat) : Int))) rfl (fun _ => rfl) rfl (fun _ _ _ _ h => h) (fun hG => ⟨hG, trivial⟩) fun D ρ w hG hs => ?_
            have hgd1 := of_decide_eq_true (eq_of_beq (and_r (hG)))
            exact L_ldRA (j := 0) (vs := cec (gd s.ents k2)) k2 SA_134 (Rd.own' hr1 hs) (gd_at (by omega)) rfl rfl rfl (by omega) ⟨rfl, hs⟩
          · exact obgy [11, 17, 22] [] [17, 22] (decide (0 < ((k2 : Nat) : Int))) rfl (fun _ => rfl) rfl (fun _ _ _ _ h => h) (fun hG => ⟨hG, hG, trivial⟩) fun D ρ w hG hs => L_callP (vs := [.agg (cec (gd s.ents (k2 - 1))).toArray, .agg (cec (gd s.ents k2)).toArray]) (V := .bool (aheadB (gd s.ents (k2 - 1)) (gd s.ents k2))) EN_92 rfl rfl (ahead_ok _ (gd s.ents (k2 - 1)) (gd s.ents k2)) hs fun _ hs => ⟨rfl, hs⟩
          · exact obgy [11, 23] [] [23] (decide (0 < ((k2 : Nat) : Int))) rfl (fun _ => rfl) rfl (fun _ _ _ _ h => h) (fun hG => ⟨hG, trivial⟩) fun D ρ w hG hs => L_not rfl ⟨rfl, hs⟩
          · exact obgy [8, 11, 24] [] [11] (!(entB s (gd s.ents k2))) rfl (fun _ => rfl) rfl (fun _ _ _ _ h => h) (fun hG => ⟨hG, trivial⟩) fun D ρ w hG hs => L_andN (h' := !(aheadB (gd s.ents (k2 - 1)) (gd s.ents k2))) (G := ((!(entB s (gd s.ents k2))) == false)) hG rfl rfl rfl ⟨rfl, hs⟩
          · exact ob [8, 25] [] rfl rfl fun D ρ w hs => L_orC (h' := (decide (0 < ((k2 : Nat) : Int))) && (!(aheadB (gd s.ents (k2 - 1)) (gd s.ents k2)))) rfl rfl rfl ⟨rfl, hs⟩
          rintro ρ1 w11 ρ2 hρ hs
          replace hρ : ρ2 = upd (mix [47, 48, 49, 50, 51, 52, 53, 54, 55, 56, 57, 58, 59, 60, 61, 62, 63, 64, 65, 66, 67, 68, 69, 70, 71, 72, 73] ρ1 _) 73 (.bool ((!(entB s (gd s.ents k2))) || ((decide (0 < ((k2 : Nat) : Int))) && (!(aheadB (gd s.ents (k2 - 1)) (gd s.ents k2)))))) := hρ
          subst hρ
          refine W_cond (t := (!(entB s (gd s.ents k2))) || ((decide (0 < ((k2 : Nat) : Int))) && (!(aheadB (gd s.ents (k2 - 1)) (gd s.ents k2))))) rfl (fun c12 => ?_) (fun c12 => ?_)
          ·
            refine W_seq ?_
            refine W_region ?_
            refine RW_op (L_assign (V := .bool false) rfl ?_)
            refine RW_nil ?_
            refine W_ret ?_
            refine ⟨_, res_one (V := .bool false) Try.results46 rfl, ?_⟩
            refine ⟨congrArg Ending.returned ?_, hs.take 0⟩
            refine congrArg Value.bool (right_badE (i := k2) (by omega) ?_).symm
            have hq := c12
            unfold badE
            revert hq
            rcases Nat.eq_zero_or_pos k2 with q9 | q9
            · subst q9; cases entB s (gd s.ents 0) <;> simp
            · rw [decide_eq_true (p := 0 < k2) q9, decide_eq_true (p := (0 : Int) < _) (by omega)]; cases entB s (gd s.ents k2) <;> cases aheadB (gd s.ents (k2 - 1)) (gd s.ents k2) <;> simp
          ·
            have c12r := or_r c12
            replace c12 := or_l c12
            replace c12 := not_f c12
            refine W_skip ?_
            refine W_seq ?_
            refine W_region ?_
            refine RW_op (L_assign (V := .int .i64 0) rfl ?_)
            refine RW_nil ?_
            refine W_block ?_
            have hen := c12
            have hah : (decide (0 < k2) && !aheadB (gd s.ents (k2 - 1)) (gd s.ents k2)) = false := by have hq := c12r; simpa using hq
            refine W_loopI (fun ρ μ ρ' w' => ∃ (ρo : Env) (k3 : Nat), ρ' = upd (mix [2, 5, 74, 75, 76, 77, 78, 79, 80, 81, 82, 83, 84, 85, 86, 87, 88, 89, 90, 91] ρo ρ) 5 (.int .i64 ((k3 : Nat) : Int)) ∧ (k3 ≤ k2) ∧ (∀ j : Nat, j < k3 → decide ((gd s.ents j).dot = (gd s.ents k2).dot) = false) ∧ μ = k2 - k3 ∧ Own w no w' [blk b1 ((vc s.known) ++ [(.slice a1 s.ents.length c1 : Value), (.slice a2 s.ticks.length c2 : Value) ]) 57]) ?_ ?_
            · exact ⟨_, _, 0, upd_of (mix_of (ds := [2, 5, 74, 75, 76, 77, 78, 79, 80, 81, 82, 83, 84, 85, 86, 87, 88, 89, 90, 91]) (Agr.refl _ _)) rfl, (by omega), (fun j hj => absurd hj (Nat.not_lt_zero j)), rfl, hs⟩
            · rintro μ ρ' w13 ⟨ρo, k3, rfl, hk3, hdd, rfl, hs⟩
              refine W_seq ?_
              refine W_seq ?_
              refine W_region ?_
              refine RW_op (L_move (V := .int .i64 ((k3 : Nat) : Int)) rfl ?_)
              refine RW_op (L_move (V := .int .i64 ((k2 : Nat) : Int)) rfl ?_)
              refine RW_op (L_lss rfl rfl ?_)
              refine RW_nil ?_
              refine W_cond (t := decide (((k3 : Nat) : Int) < ((k2 : Nat) : Int))) rfl (fun c14 => ?_) (fun c14 => ?_)
              ·
                replace c14 := of_decide_eq_true c14
                refine W_skip ?_
                refine W_seq ?_
                refine W_block ?_
                refine W_seq ?_
                refine W_regD HM [some 79, some 80, some 81, some 82, some 83, some 84, some 85, some 86, some 87, some 88, some 89, some 90, some 91] [] [0, 1, 0, 7, 15, 31, 0, 64, 0, 448, 960, 1984, 4095] [pv (.pointer (some ⟨b1, 0 + 16, none⟩)), pv (.slice a1 s.ents.length c1), pv (.int .i64 ((k3 : Nat) : Int)), pv (.pointer (some ⟨bkS (.slice a1 s.ents.length c1), ofS (.slice a1 s.ents.length c1) + ((k3 : Nat) : Int).toNat * 7, none⟩)), pv (.pointer (some ⟨bkS (.slice a1 s.ents.length c1), ofS (.slice a1 s.ents.length c1) + ((k3 : Nat) : Int).toNat * 7 + 4, none⟩)), pv (.agg (dc ((gd s.ents k3).dot)).toArray), pv (.pointer (some ⟨b1, 0 + 16, none⟩)), pv (.slice a1 s.ents.length c1), pv (.int .i64 ((k2 : Nat) : Int)), pv (.pointer (some ⟨bkS (.slice a1 s.ents.length c1), ofS (.slice a1 s.ents.length c1) + ((k2 : Nat) : Int).toNat * 7, none⟩)), pv (.pointer (some ⟨bkS (.slice a1 s.ents.length c1), ofS (.slice a1 s.ents.length c1) + ((k2 : Nat) : Int).toNat * 7 + 4, none⟩)), pv (.agg (dc ((gd s.ents k2).dot)).toArray), pv (.bool (decide ((gd s.ents k3).dot = (gd s.ents k2).dot)))] (fun _ _ => _) [12] (by kernel_rfl) hs ⟨?_, ?_, ?_, ?_, ?_, ?_, ?_, ?_, ?_, ?_, ?_, ?_, ?_, trivial⟩ ?_
                · exact ob [] [] rfl rfl fun D ρ w hs => L_fieldAddr FA_57_1 rfl ⟨rfl, hs⟩
                · exact ob [0] [] rfl rfl fun D ρ w hs => L_ld (V := .slice a1 s.ents.length c1) S1_54 hs 0 rfl rfl rfl ⟨rfl, hs⟩
                · exact ob [] [] rfl rfl fun D ρ w hs => L_move (V := .int .i64 ((k3 : Nat) : Int)) rfl ⟨rfl, hs⟩
                · exact ob [1, 2] [] rfl rfl fun D ρ w hs => L_ixR UD_54 SA_134.1 (Rd.own' hr1 hs) rfl rfl (by omega) (by rw [List.length_map]; omega) ⟨rfl, hs⟩
                · exact ob [3] [] rfl rfl fun D ρ w hs => L_fieldAddr FA_134_4 rfl ⟨rfl, hs⟩
                · exact ob [4] [] rfl rfl fun D ρ w hs => L_ldRA (j := 4) (vs := dc ((gd s.ents k3).dot)) k3 SA_96 (Rd.own' hr1 hs) (gd_at (by omega)) rfl rfl rfl (by omega) ⟨rfl, hs⟩
                · exact ob [] [] rfl rfl fun D ρ w hs => L_fieldAddr FA_57_1 rfl ⟨rfl, hs⟩
                · exact ob [6] [] rfl rfl fun D ρ w hs => L_ld (V := .slice a1 s.ents.length c1) S1_54 hs 0 rfl rfl rfl ⟨rfl, hs⟩
                · exact ob [] [] rfl rfl fun D ρ w hs => L_move (V := .int .i64 ((k2 : Nat) : Int)) rfl ⟨rfl, hs⟩
                · exact ob [7, 8] [] rfl rfl fun D ρ w hs => L_ixR UD_54 SA_134.1 (Rd.own' hr1 hs) rfl rfl (by omega) (by rw [List.length_map]; omega) ⟨rfl, hs⟩
                · exact ob [9] [] rfl rfl fun D ρ w hs => L_fieldAddr FA_134_4 rfl ⟨rfl, hs⟩
                · exact ob [10] [] rfl rfl fun D ρ w hs => L_ldRA (j := 4) (vs := dc ((gd s.ents k2).dot)) k2 SA_96 (Rd.own' hr1 hs) (gd_at (by omega)) rfl rfl rfl (by omega) ⟨rfl, hs⟩
                · exact ob [5, 11] [] rfl rfl fun D ρ w hs => L_eqA (xs := dc ((gd s.ents k3).dot)) (ys := dc ((gd s.ents k2).dot)) Try.eqGuardType96 (EQ_96 ((gd s.ents k3).dot) ((gd s.ents k2).dot)) rfl rfl rfl ⟨rfl, hs⟩
                rintro ρ1 w15 ρ2 hρ hs
                replace hρ : ρ2 = upd (mix [79, 80, 81, 82, 83, 84, 85, 86, 87, 88, 89, 90, 91] ρ1 _) 91 (.bool (decide ((gd s.ents k3).dot = (gd s.ents k2).dot))) := hρ
                subst hρ
                refine W_cond (t := decide ((gd s.ents k3).dot = (gd s.ents k2).dot)) rfl (fun c16 => ?_) (fun c16 => ?_)
                ·
                  replace c16 := of_decide_eq_true c16
                  refine W_seq ?_
                  refine W_region ?_
                  refine RW_op (L_assign (V := .bool false) rfl ?_)
                  refine RW_nil ?_
                  refine W_ret ?_
                  refine ⟨_, res_one (V := .bool false) Try.results46 rfl, ?_⟩
                  refine ⟨congrArg Ending.returned ?_, hs.take 0⟩
                  exact congrArg Value.bool (right_badE (i := k2) (by omega) (badE_dup (j := k3) (by omega) (by omega) c16)).symm
                ·
                  replace c16 := of_decide_eq_false c16
                  refine W_skip ?_
                  refine W_region ?_
                  refine RW_op (L_move (V := .int .i64 ((k3 : Nat) : Int)) rfl ?_)
                  refine RW_op (L_add (a := ((k3 : Nat) : Int)) (b := 1) (c := ((k3 + 1 : Nat) : Int)) rfl rfl (nat_i64 (by omega) (by omega)) ?_)
                  refine RW_op (L_assign (V := .int .i64 ((k3 + 1 : Nat) : Int)) rfl ?_)
                  refine RW_nil ?_
                  refine ⟨_, ?_, _, k3 + 1, upd_of (mix_of (ds := [2, 5, 74, 75, 76, 77, 78, 79, 80, 81, 82, 83, 84, 85, 86, 87, 88, 89, 90, 91]) (by repeat (first | exact Agr.refl _ _ | refine Agr.upd ?_ rfl | refine Agr.mix ?_ rfl))) rfl, (by omega), (no_step2 hdd (decide_eq_false c16)), rfl, hs.take 1⟩
                  omega
              ·
                replace c14 := of_decide_eq_false c14
                refine W_exit ?_
                refine W_region ?_
                refine RW_op (L_move (V := .int .i64 ((k2 : Nat) : Int)) rfl ?_)
                refine RW_op (L_add (a := ((k2 : Nat) : Int)) (b := 1) (c := ((k2 + 1 : Nat) : Int)) rfl rfl (nat_i64 (by omega) (by omega)) ?_)
                refine RW_op (L_assign (V := .int .i64 ((k2 + 1 : Nat) : Int)) rfl ?_)
                refine RW_nil ?_
                refine ⟨_, ?_, _, k2 + 1, upd_of (mix_of (ds := [2, 4, 5, 40, 41, 42, 43, 44, 45, 46, 47, 48, 49, 50, 51, 52, 53, 54, 55, 56, 57, 58, 59, 60, 61, 62, 63, 64, 65, 66, 67, 68, 69, 70, 71, 72, 73, 74, 75, 76, 77, 78, 79, 80, 81, 82, 83, 84, 85, 86, 87, 88, 89, 90, 91]) (by repeat (first | exact Agr.refl _ _ | refine Agr.upd ?_ rfl | refine Agr.mix ?_ rfl))) rfl, (by omega), (no_step2 hbe (badE_no (by omega) hen hah fun j hj => hdd j (by omega))), rfl, hs.take 1⟩
                omega
        ·
          replace c8 := of_decide_eq_false c8
          refine W_exit ?_
          refine W_seq ?_
          refine W_region ?_
          refine RW_op (L_fieldAddr FA_57_0 rfl ?_)
          refine RW_op (L_ldA (vs := vc s.known) SA_53 hs 0 rfl rfl rfl rfl ?_)
          refine RW_op (L_callP (vs := [.agg (vc s.known).toArray, .int .i64 16]) (V := .bool (rightB s.known 16)) EN_93 rfl rfl ?hc hs fun w17 hs => ?_)
          case hc => exact (rRight_ok _ s.known 16 (by first | assumption | exact vzero_ok))
          refine RW_op (L_assign (V := .bool (rightB s.known 16)) rfl ?_)
          refine RW_nil ?_
          refine W_ret ?_
          refine ⟨_, res_one (V := .bool (rightB s.known 16)) Try.results46 rfl, ?_⟩
          refine ⟨congrArg Ending.returned ?_, hs.take 0⟩
          exact congrArg Value.bool (rightS_fin (fun i hi => hbt i (by omega)) fun i hi => hbe i (by omega)).symm
set_option maxRecDepth 20000 in
set_option maxHeartbeats 4000000 in
theorem few_ok (w : World) (s : Sta) (a1 : Option Addr) (c1 : Nat) (a2 : Option Addr) (c2 : Nat) (hr1 : Rd w (.slice a1 s.ents.length c1) 7 (s.ents.map cec)) (hr2 : Rd w (.slice a2 s.ticks.length c2) 2 (s.ticks.map lsc)) : Calls Try.prog 27 #[.agg ((vc s.known) ++ [(.slice a1 s.ents.length c1 : Value), (.slice a2 s.ticks.length c2 : Value) ]).toArray] w (fun e w' => e = .returned (.bool (fewB s)) ∧ Own w no w' []) := by
  refine calls_of_Wn (n := 13) Try.func27 rfl Try.ntmps27 rfl ?_
  have hs := Own.start w
  refine W_seq ?_
  refine W_region ?_
  refine RW_op (L_box (V := .agg ((vc s.known) ++ [(.slice a1 s.ents.length c1 : Value), (.slice a2 s.ticks.length c2 : Value) ]).toArray) (cs := (vc s.known) ++ [(.slice a1 s.ents.length c1 : Value), (.slice a2 s.ticks.length c2 : Value) ]) rfl rfl hs fun b1 w2 hs => ?_)
  refine RW_op (L_assign (V := .bool false) rfl ?_)
  refine RW_nil ?_
  refine W_seq ?_
  refine W_regO [some 3, some 4, some 5, some 6, some 7, some 8, some 9, some 10, some 11, some 12, some 2] [] [0, 1, 3, 7, 15, 31, 63, 127, 255, 511, 1023] [pv (.pointer (some ⟨b1, 0 + 16, none⟩)), pv (.slice a1 s.ents.length c1), pv (.int .i64 ((s.ents.length : Nat) : Int)), pv (.bool (decide (((s.ents.length : Nat) : Int) ≤ 60))), pv (.bool (decide (((s.ents.length : Nat) : Int) ≤ 60))), pg ((decide (((s.ents.length : Nat) : Int) ≤ 60)) == true) (.pointer (some ⟨b1, 0 + 17, none⟩)), pg ((decide (((s.ents.length : Nat) : Int) ≤ 60)) == true) (.slice a2 s.ticks.length c2), pg ((decide (((s.ents.length : Nat) : Int) ≤ 60)) == true) (.int .i64 ((s.ticks.length : Nat) : Int)), pg ((decide (((s.ents.length : Nat) : Int) ≤ 60)) == true) (.bool (decide (((s.ticks.length : Nat) : Int) ≤ 60))), pv (.bool ((decide (((s.ents.length : Nat) : Int) ≤ 60)) && (decide (((s.ticks.length : Nat) : Int) ≤ 60)))), pv (.bool ((decide (((s.ents.length : Nat) : Int) ≤ 60)) && (decide (((s.ticks.length : Nat) : Int) ≤ 60))))] (fun _ _ => _) [10] (by kernel_rfl) hs ⟨?_, ?_, ?_, ?_, ?_, ?_, ?_, ?_, ?_, ?_, ?_, trivial⟩ ?_
  · exact ob [] [] rfl rfl fun D ρ w hs => L_fieldAddr FA_57_1 rfl ⟨rfl, hs⟩
  · exact ob [0] [] rfl rfl fun D ρ w hs => L_ld (V := .slice a1 s.ents.length c1) S1_54 hs 0 rfl rfl rfl ⟨rfl, hs⟩
  · exact ob [1] [] rfl rfl fun D ρ w hs => L_lenR (n := s.ents.length) UD_54 (Rd.own' hr1 hs) (by simp) rfl ⟨rfl, hs⟩
  · exact ob [2] [] rfl rfl fun D ρ w hs => L_leq rfl rfl ⟨rfl, hs⟩
  · exact ob [3] [] rfl rfl fun D ρ w hs => L_move (V := .bool (decide (((s.ents.length : Nat) : Int) ≤ 60))) rfl ⟨rfl, hs⟩
  · exact obg [4] [] (decide (((s.ents.length : Nat) : Int) ≤ 60)) rfl (fun _ => rfl) rfl (fun _ _ _ _ h => h) fun D ρ w hG hs => L_fieldAddr FA_57_2 rfl ⟨rfl, hs⟩
  · exact obgy [4, 5] [] [5] (decide (((s.ents.length : Nat) : Int) ≤ 60)) rfl (fun _ => rfl) rfl (fun _ _ _ _ h => h) (fun hG => ⟨hG, trivial⟩) fun D ρ w hG hs => L_ld (V := .slice a2 s.ticks.length c2) S1_55 hs 0 rfl rfl rfl ⟨rfl, hs⟩
  · exact obgy [4, 6] [] [6] (decide (((s.ents.length : Nat) : Int) ≤ 60)) rfl (fun _ => rfl) rfl (fun _ _ _ _ h => h) (fun hG => ⟨hG, trivial⟩) fun D ρ w hG hs => L_lenR (n := s.ticks.length) UD_55 (Rd.own' hr2 hs) (by simp) rfl ⟨rfl, hs⟩
  · exact obgy [4, 7] [] [7] (decide (((s.ents.length : Nat) : Int) ≤ 60)) rfl (fun _ => rfl) rfl (fun _ _ _ _ h => h) (fun hG => ⟨hG, trivial⟩) fun D ρ w hG hs => L_leq rfl rfl ⟨rfl, hs⟩
  · exact ob [4, 8] [] rfl rfl fun D ρ w hs => L_andC (h' := decide (((s.ticks.length : Nat) : Int) ≤ 60)) rfl rfl rfl ⟨rfl, hs⟩
  · exact ob [9] [] rfl rfl fun D ρ w hs => L_assign (V := .bool ((decide (((s.ents.length : Nat) : Int) ≤ 60)) && (decide (((s.ticks.length : Nat) : Int) ≤ 60)))) rfl ⟨rfl, hs⟩
  rintro ρ1 w3 ρ2 hρ hs
  replace hρ : ρ2 = upd (mix [3, 4, 5, 6, 7, 8, 9, 10, 11, 12, 2] ρ1 _) 2 (.bool ((decide (((s.ents.length : Nat) : Int) ≤ 60)) && (decide (((s.ticks.length : Nat) : Int) ≤ 60)))) := hρ
  subst hρ
  refine W_ret ?_
  refine ⟨_, res_one (V := .bool ((decide (((s.ents.length : Nat) : Int) ≤ 60)) && (decide (((s.ticks.length : Nat) : Int) ≤ 60)))) Try.results27 rfl, ?_⟩
  refine ⟨congrArg Ending.returned ?_, hs.take 0⟩
  rfl
end Tt
end Go.Proofs
