/- A part of a proof: what functions of the program compute, and plain facts on that. -/
import Derived.Test.YtnanhhiofnohbaaVtE
namespace Go.Proofs
open Go Go.Vx Go.RowKit
namespace Tt

set_option maxRecDepth 20000 in
set_option maxHeartbeats 4000000 in
theorem keys1D_ok (w : World) (S : Nat → Prop) (bx r l : Nat) (lm : List (Dot × Unit)) (R : List Value → Res) (ok : List Value → Value → Prop) (hok : ∀ (pre : List Dot) (k : Dot), pre.length < lm.length → k ∈ lm.map (·.1) → ok (pre.map dv) (dv k)) (hy : YieldC Try.prog l R ok) (hR : (R []).holds w S) (hlt : ∀ x, S x → x < w.heap.size) (hSb : ¬ S bx) (hSr : ¬ S r) (hc : CellsF w bx [.map (some r)]) (hm : MapF w r dv uv lm) : Calls Try.prog 65 #[.func (.yield l) #[] #[], .pointer (some ⟨bx, 0, none⟩)] w (fun e w' => ∃ v xs, e = .returned v ∧ xs.Perm ((lm.map (·.1)).map dv) ∧ Own w S w' [R xs]) := by
  refine calls_of_Wn (n := 14) Try.func65 rfl Try.ntmps65 rfl ?_
  have hs := Own.lent hR hlt
  obtain ⟨es, clock, hm0, hE⟩ := hm
  refine W_seq ?_
  refine W_region ?_
  refine RW_op (L_ldF (V := .map (some r)) S1_50 (CellsF.own hc hs hSb) rfl rfl ?_)
  have hat := hs.at hm0 hSr
  refine RW_op (L_range UD_50 hat hs rfl fun it w1 hs => ?_)
  refine RW_nil ?_
  refine W_block ?_
  refine W_loopI (fun ρ m ρ' w' => ∃ (ρo : Env) (pre : List Dot) (seen : Array Nat), ρ' = mix [3, 6, 7, 8, 9, 10, 11, 12, 13] ρo ρ ∧ (((left es seen).map (·.key) ++ pre.map dv).Perm ((lm.map (·.1)).map dv)) ∧ m = (left es seen).length ∧ Own w S w' [R (pre.map dv), iterR it r clock seen]) ?_ ?_
  · exact ⟨_, _, [], #[], mix_of (ds := [3, 6, 7, 8, 9, 10, 11, 12, 13]) (Agr.refl _ _), (by rw [left_none, hE.keys]; simp), rfl, hs⟩
  · rintro m ρ' w2 ⟨ρo, pre, seen, rfl, hp, rfl, hs⟩
    refine W_seq ?_
    refine W_region ?_
    refine RW_op (L_next (seen := seen) (hs.at hm0 hSr) hE.old hs 1 rfl rfl (fun h0 => ?_) (fun e3 ha w4 hs => ?_))
    ·
      refine RW_op (L_extract (V := .bool false) rfl rfl ?_)
      refine RW_nil ?_
      refine W_seq ?_
      refine W_condF rfl ?_
      refine W_exit ?_
      refine ⟨_, res_none Try.results65, ?_⟩
      rw [h0] at hp
      exact ⟨_, pre.map dv, rfl, hp, hs.only 0 rfl⟩
    ·
      obtain ⟨k, hk, hkey⟩ := ents_key hE (left_mem ha)
      refine RW_op (L_extract (V := .bool true) rfl rfl ?_)
      refine RW_nil ?_
      refine W_seq ?_
      refine W_condT rfl ?_
      refine W_skip ?_
      refine W_block ?_
      refine W_seq ?_
      refine W_region ?_
      refine RW_op (L_entryK (V := dv k) (hs.at hm0 hSr) hE.inc (left_mem ha) hkey hs 1 rfl rfl ?_)
      refine RW_op (L_extract (V := .agg (dc k).toArray) rfl rfl ?_)
      refine RW_op (L_alloc (cs := dc (⟨0, 0⟩ : Dot)) ZV_34 rfl hs fun b5 w6 hs => ?_)
      refine RW_op (L_st (V := .agg (dc k).toArray) (vs := dc k) (cs' := dc k) SA_34.1 hs 2 rfl rfl rfl rfl rfl (Nat.le_of_ble_eq_true rfl) (dc_one _) (spl_whole rfl) fun w7 hs => ?_)
      refine RW_nil ?_
      refine W_seq ?_
      refine W_region ?_
      refine RW_op (L_move (V := .func (.yield l) #[] #[]) rfl ?_)
      refine RW_op (L_ldW (cs := dc k) SA_34 hs 2 rfl rfl rfl ?_)
      have hst := keys_step hE ha hkey hp
      refine RW_op (L_yieldC (R := R) (pre := pre.map dv) (v := dv k) hy rfl rfl (hok pre k hst.2.2 hk) hs 0 rfl fun w8 hs => ?_)
      refine RW_op (L_not rfl ?_)
      refine RW_nil ?_
      refine W_condF rfl ?_
      refine W_skip ?_
      have e1 : (pre ++ [k]).map dv = pre.map dv ++ [dv k] := by simp
      rw [← e1] at hs
      refine ⟨_, ?_, _, pre ++ [k], seen.push e3.born, mix_of (ds := [3, 6, 7, 8, 9, 10, 11, 12, 13]) (by repeat (first | exact Agr.refl _ _ | refine Agr.upd ?_ rfl | refine Agr.mix ?_ rfl)), hst.1, rfl, hs.take 2⟩
      exact hst.2.1
set_option maxRecDepth 20000 in
set_option maxHeartbeats 4000000 in
theorem keysD_ok (w : World) (r : Nat) : Calls Try.prog 50 #[.map (some r)] w (fun e w' => ∃ x : Nat, e = .returned (.func (.func 65) #[] #[.pointer (some ⟨x, 0, none⟩)]) ∧ Own w no w' [blk x [.map (some r)] 50] ∧ True) := by
  refine calls_of_Wn (n := 4) Try.func50 rfl Try.ntmps50 rfl ?_
  have hs := Own.start w
  refine W_seq ?_
  refine W_region ?_
  refine RW_op (L_box (V := .map (some r)) (cs := [.map (some r)]) rfl rfl hs fun b1 w2 hs => ?_)
  refine RW_op (L_assign (V := .nilFunc) rfl ?_)
  refine RW_nil ?_
  refine W_seq ?_
  refine W_region ?_
  refine RW_op (L_makeFunc (cs := [.pointer (some ⟨b1, 0, none⟩)]) rfl rfl ?_)
  refine RW_op (L_assign (V := .func (.func 65) #[] #[.pointer (some ⟨b1, 0, none⟩)]) rfl ?_)
  refine RW_nil ?_
  refine W_ret ?_
  refine ⟨_, res_one (V := .func (.func 65) #[] #[.pointer (some ⟨b1, 0, none⟩)]) Try.results50 rfl, ?_⟩
  exact ⟨b1, rfl, hs.only 0 rfl, trivial⟩
end Tt
end Go.Proofs
