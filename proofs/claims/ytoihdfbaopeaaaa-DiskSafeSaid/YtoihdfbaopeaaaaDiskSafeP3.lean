/- A part of a proof: what functions of the program compute, and plain facts on that. -/
import Derived.Test.YtoihdfbaopeaaaaDiskSafeP2
import Derived.KernelRfl
import Derived.Test.YtoihdfbaopeaaaaProg
import Derived.Shelf.SlLaysM
import Derived.Shelf.SlLaysW
import Derived.Ground.SlgmProg
import Derived.Ground.SlmcProg
import Derived.Shelf.SlMaps.Clone
set_option linter.unusedVariables false
set_option linter.unusedSimpArgs false
namespace Go.Proofs
open Go Go.Vx Go.RowKit
namespace Tt
set_option maxRecDepth 20000 in
set_option maxHeartbeats 4000000 in
theorem kSyncN_ok (w : World) (S : Nat → Prop) (b : Nat) (m : Dk) (hR : (dkR 44 60 5 52 57 b m).holds w S) (hlt : ∀ x, S x → x < w.heap.size) (s : Str) (hf : mget s m.nm = none) : Calls Try.prog 12 #[.pointer (some ⟨b, 0, none⟩), sv s] w (fun e w' => ∃ x : Unit, e = .returned (.int .i64 7) ∧ Own w S w' [dkR 44 60 5 52 57 b m] ∧ True) := by
  refine calls_of_Wn (n := 30) Try.func12 rfl Try.ntmps12 rfl ?_
  have hpl := pts_len m.ts
  obtain ⟨a, c, r1, r2, a2, c2, hs⟩ := dk_open hR hlt
  replace hs : Own w S w [blk b [.int .i64 m.room, .slice a m.ts.length c, .map (some r1), .map (some r2), .slice a2 m.ch.length c2, .bool false, .int .i64 0] 44, row (.slice a m.ts.length c) ((pts m.ts).map po) 52 1, mapR r1 sv Value.pointer m.nm, mapR r2 sv Value.pointer m.sf, row (.slice a2 m.ch.length c2) (m.ch.map chc) 57 3, star (m.ts.map (thR 60 5))] := hs
  refine W_seq ?_
  refine W_region ?_
  refine RW_op (L_assign (V := .int .i64 0) rfl ?_)
  refine RW_nil ?_
  refine W_seq ?_
  refine W_seq ?_
  refine W_region ?_
  refine RW_op (L_move (V := .pointer (some ⟨b, 0, none⟩)) rfl ?_)
  refine RW_op (L_callP (vs := [.pointer (some ⟨b, 0, none⟩)]) (V := .int .i64 0) EN_20 rfl rfl ?hc hs fun w1 hs => ?_)
  case hc => exact (kBurn_ok _ b (hs.cellsf 0 rfl) )
  refine RW_op (L_assign (V := .int .i64 0) rfl ?_)
  refine RW_nil ?_
  refine W_seq ?_
  refine W_region ?_
  refine RW_op (L_move (V := .int .i64 0) rfl ?_)
  refine RW_op (L_neq rfl rfl ?_)
  refine RW_nil ?_
  refine W_condF rfl ?_
  refine W_skip ?_
  refine W_seq ?_
  refine W_region ?_
  refine RW_op (L_move (V := .pointer (some ⟨b, 0, none⟩)) rfl ?_)
  refine RW_op (L_move (V := sv s) rfl ?_)
  refine RW_op (L_callP (vs := [.pointer (some ⟨b, 0, none⟩), sv s]) (V := .tuple #[.pointer none, .int .i64 7]) EN_21 rfl rfl ?hc hs fun w2 hs => ?_)
  case hc => exact (kFindN_ok _ b (hs.cellsf 0 rfl) s (hs.mapf 2 rfl) hf)
  refine RW_op (L_move (V := .tuple #[.pointer none, .int .i64 7]) rfl ?_)
  refine RW_op (L_extract (V := .pointer none) rfl rfl ?_)
  refine RW_op (L_extract (V := .int .i64 7) rfl rfl ?_)
  refine RW_op (L_assign (V := .pointer none) rfl ?_)
  refine RW_op (L_assign (V := .int .i64 7) rfl ?_)
  refine RW_nil ?_
  refine W_seq ?_
  refine W_seq ?_
  refine W_region ?_
  refine RW_op (L_move (V := .int .i64 7) rfl ?_)
  refine RW_op (L_eql rfl rfl ?_)
  refine RW_nil ?_
  refine W_condF rfl ?_
  refine W_skip ?_
  refine W_seq ?_
  refine W_region ?_
  refine RW_op (L_move (V := .int .i64 7) rfl ?_)
  refine RW_op (L_assign (V := .int .i64 7) rfl ?_)
  refine RW_nil ?_
  refine W_ret ?_
  refine ⟨_, res_one (V := .int .i64 7) Try.results12 rfl, ?_⟩
  exact ⟨(), rfl, dk_shut' (hs.take 6) rfl rfl rfl, trivial⟩
set_option maxRecDepth 20000 in
set_option maxHeartbeats 4000000 in
theorem kSyncS_ok (w : World) (S : Nat → Prop) (b : Nat) (m : Dk) (hR : (dkR 44 60 5 52 57 b m).holds w S) (hlt : ∀ x, S x → x < w.heap.size) (s : Str) (i : Nat) (t : Thg) (hi : m.ts[i]? = some t) (hf : mget s m.nm = some (pt t.p)) : Calls Try.prog 12 #[.pointer (some ⟨b, 0, none⟩), sv s] w (fun e w' => ∃ x : Unit, e = .returned (.int .i64 0) ∧ Own w S w' [dkR 44 60 5 52 57 b ({ m with ts := m.ts.set i { t with sf := t.bs.length } })] ∧ True) := by
  refine calls_of_Wn (n := 30) Try.func12 rfl Try.ntmps12 rfl ?_
  have hpl := pts_len m.ts
  obtain ⟨a, c, r1, r2, a2, c2, hs⟩ := dk_open hR hlt
  replace hs : Own w S w [blk b [.int .i64 m.room, .slice a m.ts.length c, .map (some r1), .map (some r2), .slice a2 m.ch.length c2, .bool false, .int .i64 0] 44, row (.slice a m.ts.length c) ((pts m.ts).map po) 52 1, mapR r1 sv Value.pointer m.nm, mapR r2 sv Value.pointer m.sf, row (.slice a2 m.ch.length c2) (m.ch.map chc) 57 3, star (m.ts.map (thR 60 5))] := hs
  refine W_seq ?_
  refine W_region ?_
  refine RW_op (L_assign (V := .int .i64 0) rfl ?_)
  refine RW_nil ?_
  refine W_seq ?_
  refine W_seq ?_
  refine W_region ?_
  refine RW_op (L_move (V := .pointer (some ⟨b, 0, none⟩)) rfl ?_)
  refine RW_op (L_callP (vs := [.pointer (some ⟨b, 0, none⟩)]) (V := .int .i64 0) EN_20 rfl rfl ?hc hs fun w1 hs => ?_)
  case hc => exact (kBurn_ok _ b (hs.cellsf 0 rfl) )
  refine RW_op (L_assign (V := .int .i64 0) rfl ?_)
  refine RW_nil ?_
  refine W_seq ?_
  refine W_region ?_
  refine RW_op (L_move (V := .int .i64 0) rfl ?_)
  refine RW_op (L_neq rfl rfl ?_)
  refine RW_nil ?_
  refine W_condF rfl ?_
  refine W_skip ?_
  refine W_seq ?_
  refine W_region ?_
  refine RW_op (L_move (V := .pointer (some ⟨b, 0, none⟩)) rfl ?_)
  refine RW_op (L_move (V := sv s) rfl ?_)
  refine RW_op (L_callP (vs := [.pointer (some ⟨b, 0, none⟩), sv s]) (V := .tuple #[.pointer (some ⟨t.p, 0, none⟩), .int .i64 0]) EN_21 rfl rfl ?hc hs fun w2 hs => ?_)
  case hc => exact (kFindS_ok _ b (hs.cellsf 0 rfl) s (hs.mapf 2 rfl) t.p hf)
  refine RW_op (L_move (V := .tuple #[.pointer (some ⟨t.p, 0, none⟩), .int .i64 0]) rfl ?_)
  refine RW_op (L_extract (V := .pointer (some ⟨t.p, 0, none⟩)) rfl rfl ?_)
  refine RW_op (L_extract (V := .int .i64 0) rfl rfl ?_)
  refine RW_op (L_assign (V := .pointer (some ⟨t.p, 0, none⟩)) rfl ?_)
  refine RW_op (L_assign (V := .int .i64 0) rfl ?_)
  refine RW_nil ?_
  refine W_seq ?_
  refine W_seq ?_
  refine W_region ?_
  refine RW_op (L_move (V := .int .i64 0) rfl ?_)
  refine RW_op (L_eql rfl rfl ?_)
  refine RW_nil ?_
  refine W_condT rfl ?_
  obtain ⟨ta, tc, hs⟩ := th_out hs 5 i rfl hi
  replace hs : Own w S _ [blk b [.int .i64 m.room, .slice a m.ts.length c, .map (some r1), .map (some r2), .slice a2 m.ch.length c2, .bool false, .int .i64 0] 44, row (.slice a m.ts.length c) ((pts m.ts).map po) 52 1, mapR r1 sv Value.pointer m.nm, mapR r2 sv Value.pointer m.sf, row (.slice a2 m.ch.length c2) (m.ch.map chc) 57 3, star ((m.ts.map (thR 60 5)).set i emp), blk t.p [.slice ta t.bs.length tc, .int .i64 ((t.sf : Nat) : Int)] 60, row (.slice ta t.bs.length tc) (t.bs.map (ic .u8)) 5 1] := hs
  refine W_region ?_
  refine RW_op (L_move (V := .pointer (some ⟨t.p, 0, none⟩)) rfl ?_)
  refine RW_op (L_move (V := .pointer (some ⟨t.p, 0, none⟩)) rfl ?_)
  refine RW_op (L_nilCheck rfl ?_)
  refine RW_op (L_fieldAddr FA_60_0 rfl ?_)
  refine RW_op (L_ld (V := .slice ta t.bs.length tc) S1_23 hs 6 rfl rfl rfl ?_)
  refine RW_op (L_lenR (n := t.bs.length) UD_23 (hs.rd 7 rfl) (by simp [pts_len]) rfl ?_)
  refine RW_op (L_nilCheck rfl ?_)
  refine RW_op (L_fieldAddr FA_60_1 rfl ?_)
  refine RW_op (L_st1 (V := .int .i64 ((t.bs.length : Nat) : Int)) (cs' := [.slice ta t.bs.length tc, .int .i64 ((t.bs.length : Nat) : Int)]) S1_3 hs 6 rfl rfl rfl rfl (Nat.le_of_ble_eq_true rfl) rfl fun w3 hs => ?_)
  refine RW_nil ?_
  refine W_seq ?_
  refine W_region ?_
  refine RW_op (L_move (V := .int .i64 0) rfl ?_)
  refine RW_op (L_assign (V := .int .i64 0) rfl ?_)
  refine RW_nil ?_
  refine W_ret ?_
  refine ⟨_, res_one (V := .int .i64 0) Try.results12 rfl, ?_⟩
  replace hs := th_in hs 5 6 7 i (by decide) (by decide) (by decide) (t := { t with sf := t.bs.length }) (a := ta) (c := tc) rfl (lt_of_get hi) rfl rfl
  exact ⟨(), rfl, dk_shut' (hs.take 6) (by simp) (pts_set (t' := { t with sf := t.bs.length }) hi rfl).symm rfl, trivial⟩
set_option maxRecDepth 20000 in
set_option maxHeartbeats 4000000 in
theorem kRemN_ok (w : World) (S : Nat → Prop) (b : Nat) (m : Dk) (hR : (dkR 44 60 5 52 57 b m).holds w S) (hlt : ∀ x, S x → x < w.heap.size) (s : Str) (hf : mget s m.nm = none) : Calls Try.prog 10 #[.pointer (some ⟨b, 0, none⟩), sv s] w (fun e w' => ∃ x : Unit, e = .returned (.int .i64 7) ∧ Own w S w' [dkR 44 60 5 52 57 b m] ∧ True) := by
  refine calls_of_Wn (n := 26) Try.func10 rfl Try.ntmps10 rfl ?_
  have hpl := pts_len m.ts
  obtain ⟨a, c, r1, r2, a2, c2, hs⟩ := dk_open hR hlt
  replace hs : Own w S w [blk b [.int .i64 m.room, .slice a m.ts.length c, .map (some r1), .map (some r2), .slice a2 m.ch.length c2, .bool false, .int .i64 0] 44, row (.slice a m.ts.length c) ((pts m.ts).map po) 52 1, mapR r1 sv Value.pointer m.nm, mapR r2 sv Value.pointer m.sf, row (.slice a2 m.ch.length c2) (m.ch.map chc) 57 3, star (m.ts.map (thR 60 5))] := hs
  refine W_seq ?_
  refine W_region ?_
  refine RW_op (L_assign (V := .int .i64 0) rfl ?_)
  refine RW_nil ?_
  refine W_seq ?_
  refine W_seq ?_
  refine W_region ?_
  refine RW_op (L_move (V := .pointer (some ⟨b, 0, none⟩)) rfl ?_)
  refine RW_op (L_callP (vs := [.pointer (some ⟨b, 0, none⟩)]) (V := .int .i64 0) EN_20 rfl rfl ?hc hs fun w1 hs => ?_)
  case hc => exact (kBurn_ok _ b (hs.cellsf 0 rfl) )
  refine RW_op (L_assign (V := .int .i64 0) rfl ?_)
  refine RW_nil ?_
  refine W_seq ?_
  refine W_region ?_
  refine RW_op (L_move (V := .int .i64 0) rfl ?_)
  refine RW_op (L_neq rfl rfl ?_)
  refine RW_nil ?_
  refine W_condF rfl ?_
  refine W_skip ?_
  refine W_seq ?_
  refine W_region ?_
  refine RW_op (L_move (V := .pointer (some ⟨b, 0, none⟩)) rfl ?_)
  refine RW_op (L_move (V := sv s) rfl ?_)
  refine RW_op (L_callP (vs := [.pointer (some ⟨b, 0, none⟩), sv s]) (V := .tuple #[.pointer none, .int .i64 7]) EN_21 rfl rfl ?hc hs fun w2 hs => ?_)
  case hc => exact (kFindN_ok _ b (hs.cellsf 0 rfl) s (hs.mapf 2 rfl) hf)
  refine RW_op (L_move (V := .tuple #[.pointer none, .int .i64 7]) rfl ?_)
  refine RW_op (L_extract (V := .pointer none) rfl rfl ?_)
  refine RW_op (L_extract (V := .int .i64 7) rfl rfl ?_)
  refine RW_op (L_assign (V := .pointer none) rfl ?_)
  refine RW_op (L_assign (V := .int .i64 7) rfl ?_)
  refine RW_nil ?_
  refine W_seq ?_
  refine W_seq ?_
  refine W_region ?_
  refine RW_op (L_move (V := .int .i64 7) rfl ?_)
  refine RW_op (L_eql rfl rfl ?_)
  refine RW_nil ?_
  refine W_condF rfl ?_
  refine W_skip ?_
  refine W_seq ?_
  refine W_region ?_
  refine RW_op (L_move (V := .int .i64 7) rfl ?_)
  refine RW_op (L_assign (V := .int .i64 7) rfl ?_)
  refine RW_nil ?_
  refine W_ret ?_
  refine ⟨_, res_one (V := .int .i64 7) Try.results10 rfl, ?_⟩
  exact ⟨(), rfl, dk_shut' (hs.take 6) rfl rfl rfl, trivial⟩
set_option maxRecDepth 20000 in
set_option maxHeartbeats 4000000 in
theorem kRemS_ok (w : World) (S : Nat → Prop) (b : Nat) (m : Dk) (hR : (dkR 44 60 5 52 57 b m).holds w S) (hlt : ∀ x, S x → x < w.heap.size) (hN : m.ch.length ≤ 1000000) (s : Str) (p : Nat) (hf : mget s m.nm = some (pt p)) : Calls Try.prog 10 #[.pointer (some ⟨b, 0, none⟩), sv s] w (fun e w' => ∃ x : Unit, e = .returned (.int .i64 0) ∧ Own w S w' [dkR 44 60 5 52 57 b (chgD m ⟨s, [], none⟩)] ∧ True) := by
  refine calls_of_Wn (n := 26) Try.func10 rfl Try.ntmps10 rfl ?_
  have hpl := pts_len m.ts
  obtain ⟨a, c, r1, r2, a2, c2, hs⟩ := dk_open hR hlt
  replace hs : Own w S w [blk b [.int .i64 m.room, .slice a m.ts.length c, .map (some r1), .map (some r2), .slice a2 m.ch.length c2, .bool false, .int .i64 0] 44, row (.slice a m.ts.length c) ((pts m.ts).map po) 52 1, mapR r1 sv Value.pointer m.nm, mapR r2 sv Value.pointer m.sf, row (.slice a2 m.ch.length c2) (m.ch.map chc) 57 3, star (m.ts.map (thR 60 5))] := hs
  refine W_seq ?_
  refine W_region ?_
  refine RW_op (L_assign (V := .int .i64 0) rfl ?_)
  refine RW_nil ?_
  refine W_seq ?_
  refine W_seq ?_
  refine W_region ?_
  refine RW_op (L_move (V := .pointer (some ⟨b, 0, none⟩)) rfl ?_)
  refine RW_op (L_callP (vs := [.pointer (some ⟨b, 0, none⟩)]) (V := .int .i64 0) EN_20 rfl rfl ?hc hs fun w1 hs => ?_)
  case hc => exact (kBurn_ok _ b (hs.cellsf 0 rfl) )
  refine RW_op (L_assign (V := .int .i64 0) rfl ?_)
  refine RW_nil ?_
  refine W_seq ?_
  refine W_region ?_
  refine RW_op (L_move (V := .int .i64 0) rfl ?_)
  refine RW_op (L_neq rfl rfl ?_)
  refine RW_nil ?_
  refine W_condF rfl ?_
  refine W_skip ?_
  refine W_seq ?_
  refine W_region ?_
  refine RW_op (L_move (V := .pointer (some ⟨b, 0, none⟩)) rfl ?_)
  refine RW_op (L_move (V := sv s) rfl ?_)
  refine RW_op (L_callP (vs := [.pointer (some ⟨b, 0, none⟩), sv s]) (V := .tuple #[.pointer (some ⟨p, 0, none⟩), .int .i64 0]) EN_21 rfl rfl ?hc hs fun w2 hs => ?_)
  case hc => exact (kFindS_ok _ b (hs.cellsf 0 rfl) s (hs.mapf 2 rfl) p hf)
  refine RW_op (L_move (V := .tuple #[.pointer (some ⟨p, 0, none⟩), .int .i64 0]) rfl ?_)
  refine RW_op (L_extract (V := .pointer (some ⟨p, 0, none⟩)) rfl rfl ?_)
  refine RW_op (L_extract (V := .int .i64 0) rfl rfl ?_)
  refine RW_op (L_assign (V := .pointer (some ⟨p, 0, none⟩)) rfl ?_)
  refine RW_op (L_assign (V := .int .i64 0) rfl ?_)
  refine RW_nil ?_
  refine W_seq ?_
  refine W_seq ?_
  refine W_region ?_
  refine RW_op (L_move (V := .int .i64 0) rfl ?_)
  refine RW_op (L_eql rfl rfl ?_)
  refine RW_nil ?_
  refine W_condT rfl ?_
  refine W_region ?_
  refine RW_op (L_move (V := .pointer (some ⟨b, 0, none⟩)) rfl ?_)
  refine RW_op (L_move (V := sv s) rfl ?_)
  refine RW_op (L_build (vs := [(0, sv s)]) (cs := chc (⟨s, [], none⟩ : Chg)) BT_57 (rfl) rfl ?_)
  refine RW_op (L_callS (vs := [.pointer (some ⟨b, 0, none⟩), .agg (chc (⟨s, [], none⟩ : Chg)).toArray]) (V := fun _ : Option Addr × Nat => .tuple #[]) (Rs := [blk b [.int .i64 m.room, .slice a m.ts.length c, .map (some r1), .map (some r2), .slice a2 m.ch.length c2, .bool false, .int .i64 0] 44, mapR r1 sv Value.pointer m.nm, row (.slice a2 m.ch.length c2) (m.ch.map chc) 57 3]) (Rs' := fun x => [blk b [.int .i64 m.room, .slice a m.ts.length c, .map (some r1), .map (some r2), .slice x.1 ((m.ch ++ [(⟨s, [], none⟩ : Chg)]).length) x.2, .bool false, .int .i64 0] 44, mapR r1 sv Value.pointer (doC m.nm (⟨s, [], none⟩ : Chg)), row (.slice x.1 ((m.ch ++ [(⟨s, [], none⟩ : Chg)]).length) x.2) ((m.ch ++ [(⟨s, [], none⟩ : Chg)]).map chc) 57 3]) (Lo := fun _ => []) (F := fun _ _ => True) EN_22 rfl rfl hs [0, 2, 4] (by decide) rfl (fun _ => rfl) (fun S0 h0 l0 => kChg_ok _ S0 b m.room a m.ts.length c r1 r2 a2 c2 m.nm m.ch (⟨s, [], none⟩ : Chg) (.inl rfl) hN h0 l0) fun x3 w4 hs _ => ?_)
  replace hs : Own w S w4 [blk b [.int .i64 m.room, .slice a m.ts.length c, .map (some r1), .map (some r2), .slice x3.1 ((m.ch ++ [(⟨s, [], none⟩ : Chg)]).length) x3.2, .bool false, .int .i64 0] 44, row (.slice a m.ts.length c) ((pts m.ts).map po) 52 1, mapR r1 sv Value.pointer (doC m.nm (⟨s, [], none⟩ : Chg)), mapR r2 sv Value.pointer m.sf, row (.slice x3.1 ((m.ch ++ [(⟨s, [], none⟩ : Chg)]).length) x3.2) ((m.ch ++ [(⟨s, [], none⟩ : Chg)]).map chc) 57 3, star (m.ts.map (thR 60 5))] := hs
  refine RW_nil ?_
  refine W_seq ?_
  refine W_region ?_
  refine RW_op (L_move (V := .int .i64 0) rfl ?_)
  refine RW_op (L_assign (V := .int .i64 0) rfl ?_)
  refine RW_nil ?_
  refine W_ret ?_
  refine ⟨_, res_one (V := .int .i64 0) Try.results10 rfl, ?_⟩
  exact ⟨(), rfl, dk_shut' (hs.take 6) rfl rfl rfl, trivial⟩
set_option maxRecDepth 20000 in
set_option maxHeartbeats 4000000 in
theorem kRenN_ok (w : World) (S : Nat → Prop) (b : Nat) (m : Dk) (hR : (dkR 44 60 5 52 57 b m).holds w S) (hlt : ∀ x, S x → x < w.heap.size) (s s2 : Str) (hf : mget s m.nm = none) : Calls Try.prog 18 #[.pointer (some ⟨b, 0, none⟩), sv s, sv s2] w (fun e w' => ∃ x : Unit, e = .returned (.int .i64 7) ∧ Own w S w' [dkR 44 60 5 52 57 b m] ∧ True) := by
  refine calls_of_Wn (n := 39) Try.func18 rfl Try.ntmps18 rfl ?_
  have hpl := pts_len m.ts
  obtain ⟨a, c, r1, r2, a2, c2, hs⟩ := dk_open hR hlt
  replace hs : Own w S w [blk b [.int .i64 m.room, .slice a m.ts.length c, .map (some r1), .map (some r2), .slice a2 m.ch.length c2, .bool false, .int .i64 0] 44, row (.slice a m.ts.length c) ((pts m.ts).map po) 52 1, mapR r1 sv Value.pointer m.nm, mapR r2 sv Value.pointer m.sf, row (.slice a2 m.ch.length c2) (m.ch.map chc) 57 3, star (m.ts.map (thR 60 5))] := hs
  refine W_seq ?_
  refine W_region ?_
  refine RW_op (L_assign (V := .int .i64 0) rfl ?_)
  refine RW_nil ?_
  refine W_seq ?_
  refine W_seq ?_
  refine W_region ?_
  refine RW_op (L_move (V := .pointer (some ⟨b, 0, none⟩)) rfl ?_)
  refine RW_op (L_callP (vs := [.pointer (some ⟨b, 0, none⟩)]) (V := .int .i64 0) EN_20 rfl rfl ?hc hs fun w1 hs => ?_)
  case hc => exact (kBurn_ok _ b (hs.cellsf 0 rfl) )
  refine RW_op (L_assign (V := .int .i64 0) rfl ?_)
  refine RW_nil ?_
  refine W_seq ?_
  refine W_region ?_
  refine RW_op (L_move (V := .int .i64 0) rfl ?_)
  refine RW_op (L_neq rfl rfl ?_)
  refine RW_nil ?_
  refine W_condF rfl ?_
  refine W_skip ?_
  refine W_seq ?_
  refine W_region ?_
  refine RW_op (L_move (V := .pointer (some ⟨b, 0, none⟩)) rfl ?_)
  refine RW_op (L_move (V := sv s) rfl ?_)
  refine RW_op (L_callP (vs := [.pointer (some ⟨b, 0, none⟩), sv s]) (V := .tuple #[.pointer none, .int .i64 7]) EN_21 rfl rfl ?hc hs fun w2 hs => ?_)
  case hc => exact (kFindN_ok _ b (hs.cellsf 0 rfl) s (hs.mapf 2 rfl) hf)
  refine RW_op (L_move (V := .tuple #[.pointer none, .int .i64 7]) rfl ?_)
  refine RW_op (L_extract (V := .pointer none) rfl rfl ?_)
  refine RW_op (L_extract (V := .int .i64 7) rfl rfl ?_)
  refine RW_op (L_assign (V := .pointer none) rfl ?_)
  refine RW_op (L_assign (V := .int .i64 7) rfl ?_)
  refine RW_nil ?_
  refine W_seq ?_
  refine W_block ?_
  refine W_seq ?_
  refine W_region ?_
  refine RW_op (L_move (V := .int .i64 7) rfl ?_)
  refine RW_op (L_neq rfl rfl ?_)
  refine RW_op (L_assign (V := .bool true) rfl ?_)
  refine RW_nil ?_
  refine W_condT rfl ?_
  refine W_seq ?_
  refine W_region ?_
  refine RW_op (L_move (V := .int .i64 7) rfl ?_)
  refine RW_op (L_assign (V := .int .i64 7) rfl ?_)
  refine RW_nil ?_
  refine W_ret ?_
  refine ⟨_, res_one (V := .int .i64 7) Try.results18 rfl, ?_⟩
  exact ⟨(), rfl, dk_shut' (hs.take 6) rfl rfl rfl, trivial⟩
set_option maxRecDepth 20000 in
set_option maxHeartbeats 4000000 in
theorem kRenS_ok (w : World) (S : Nat → Prop) (b : Nat) (m : Dk) (hR : (dkR 44 60 5 52 57 b m).holds w S) (hlt : ∀ x, S x → x < w.heap.size) (hN : m.ch.length ≤ 1000000) (s s2 : Str) (p : Nat) (hf : mget s m.nm = some (pt p)) : Calls Try.prog 18 #[.pointer (some ⟨b, 0, none⟩), sv s, sv s2] w (fun e w' => ∃ x : Int × Dk, e = .returned (.int .i64 x.1) ∧ Own w S w' [dkR 44 60 5 52 57 b x.2] ∧ ((x.1 = 2 ∧ x.2 = m ∧ mayB s2 = false) ∨ (x.1 = 0 ∧ x.2 = m ∧ mayB s2 = true ∧ s = s2) ∨ (x.1 = 0 ∧ x.2 = chgD m ⟨s2, s, pt p⟩ ∧ mayB s2 = true ∧ ¬ s = s2))) := by
  refine calls_of_Wn (n := 39) Try.func18 rfl Try.ntmps18 rfl ?_
  have hpl := pts_len m.ts
  obtain ⟨a, c, r1, r2, a2, c2, hs⟩ := dk_open hR hlt
  replace hs : Own w S w [blk b [.int .i64 m.room, .slice a m.ts.length c, .map (some r1), .map (some r2), .slice a2 m.ch.length c2, .bool false, .int .i64 0] 44, row (.slice a m.ts.length c) ((pts m.ts).map po) 52 1, mapR r1 sv Value.pointer m.nm, mapR r2 sv Value.pointer m.sf, row (.slice a2 m.ch.length c2) (m.ch.map chc) 57 3, star (m.ts.map (thR 60 5))] := hs
  refine W_seq ?_
  refine W_region ?_
  refine RW_op (L_assign (V := .int .i64 0) rfl ?_)
  refine RW_nil ?_
  refine W_seq ?_
  refine W_seq ?_
  refine W_region ?_
  refine RW_op (L_move (V := .pointer (some ⟨b, 0, none⟩)) rfl ?_)
  refine RW_op (L_callP (vs := [.pointer (some ⟨b, 0, none⟩)]) (V := .int .i64 0) EN_20 rfl rfl ?hc hs fun w1 hs => ?_)
  case hc => exact (kBurn_ok _ b (hs.cellsf 0 rfl) )
  refine RW_op (L_assign (V := .int .i64 0) rfl ?_)
  refine RW_nil ?_
  refine W_seq ?_
  refine W_region ?_
  refine RW_op (L_move (V := .int .i64 0) rfl ?_)
  refine RW_op (L_neq rfl rfl ?_)
  refine RW_nil ?_
  refine W_condF rfl ?_
  refine W_skip ?_
  refine W_seq ?_
  refine W_region ?_
  refine RW_op (L_move (V := .pointer (some ⟨b, 0, none⟩)) rfl ?_)
  refine RW_op (L_move (V := sv s) rfl ?_)
  refine RW_op (L_callP (vs := [.pointer (some ⟨b, 0, none⟩), sv s]) (V := .tuple #[.pointer (some ⟨p, 0, none⟩), .int .i64 0]) EN_21 rfl rfl ?hc hs fun w2 hs => ?_)
  case hc => exact (kFindS_ok _ b (hs.cellsf 0 rfl) s (hs.mapf 2 rfl) p hf)
  refine RW_op (L_move (V := .tuple #[.pointer (some ⟨p, 0, none⟩), .int .i64 0]) rfl ?_)
  refine RW_op (L_extract (V := .pointer (some ⟨p, 0, none⟩)) rfl rfl ?_)
  refine RW_op (L_extract (V := .int .i64 0) rfl rfl ?_)
  refine RW_op (L_assign (V := .pointer (some ⟨p, 0, none⟩)) rfl ?_)
  refine RW_op (L_assign (V := .int .i64 0) rfl ?_)
  refine RW_nil ?_
  refine W_seq ?_
  refine W_block ?_
  refine W_seq ?_
  refine W_region ?_
  refine RW_op (L_move (V := .int .i64 0) rfl ?_)
  refine RW_op (L_neq rfl rfl ?_)
  refine RW_op (L_assign (V := .bool false) rfl ?_)
  refine RW_nil ?_
  refine W_condF rfl ?_
  refine W_seq ?_
  refine W_region ?_
  refine RW_op (L_move (V := sv s2) rfl ?_)
  refine RW_op (L_callP (vs := [sv s2]) (V := .bool (mayB s2)) EN_23 rfl rfl ?hc hs fun w3 hs => ?_)
  case hc => exact (kMay_ok _ s2)
  refine RW_op (L_not rfl ?_)
  refine RW_op (L_assign (V := .bool (!(mayB s2))) rfl ?_)
  refine RW_nil ?_
  refine W_cond (t := !(mayB s2)) rfl (fun c4 => ?_) (fun c4 => ?_)
  ·
    replace c4 := not_t c4
    refine W_seq ?_
    refine W_region ?_
    refine RW_op (L_assign (V := .int .i64 2) rfl ?_)
    refine RW_nil ?_
    refine W_ret ?_
    refine ⟨_, res_one (V := .int .i64 2) Try.results18 rfl, ?_⟩
    exact ⟨(2, m), rfl, dk_shut' (hs.take 6) rfl rfl rfl, .inl ⟨rfl, rfl, c4⟩⟩
  ·
    replace c4 := not_f c4
    refine W_seq ?_
    refine W_region ?_
    refine RW_op (L_move (V := sv s) rfl ?_)
    refine RW_op (L_move (V := sv s2) rfl ?_)
    refine RW_op (L_neS rfl rfl ?_)
    refine RW_op (L_assign (V := .bool (!decide (s = s2))) rfl ?_)
    refine RW_nil ?_
    refine W_cond (t := !decide (s = s2)) rfl (fun c5 => ?_) (fun c5 => ?_)
    ·
      replace c5 := not_t c5
      replace c5 := of_decide_eq_false c5
      refine W_region ?_
      refine RW_op (L_move (V := .pointer (some ⟨b, 0, none⟩)) rfl ?_)
      refine RW_op (L_move (V := sv s2) rfl ?_)
      refine RW_op (L_move (V := sv s) rfl ?_)
      refine RW_op (L_move (V := .pointer (some ⟨p, 0, none⟩)) rfl ?_)
      refine RW_op (L_build (vs := [(0, sv s2), (1, sv s), (2, .pointer (some ⟨p, 0, none⟩))]) (cs := chc (⟨s2, s, (some ⟨p, 0, none⟩ : Option Addr)⟩ : Chg)) BT_57 (rfl) rfl ?_)
      refine RW_op (L_callS (vs := [.pointer (some ⟨b, 0, none⟩), .agg (chc (⟨s2, s, (some ⟨p, 0, none⟩ : Option Addr)⟩ : Chg)).toArray]) (V := fun _ : Option Addr × Nat => .tuple #[]) (Rs := [blk b [.int .i64 m.room, .slice a m.ts.length c, .map (some r1), .map (some r2), .slice a2 m.ch.length c2, .bool false, .int .i64 0] 44, mapR r1 sv Value.pointer m.nm, row (.slice a2 m.ch.length c2) (m.ch.map chc) 57 3]) (Rs' := fun x => [blk b [.int .i64 m.room, .slice a m.ts.length c, .map (some r1), .map (some r2), .slice x.1 ((m.ch ++ [(⟨s2, s, (some ⟨p, 0, none⟩ : Option Addr)⟩ : Chg)]).length) x.2, .bool false, .int .i64 0] 44, mapR r1 sv Value.pointer (doC m.nm (⟨s2, s, (some ⟨p, 0, none⟩ : Option Addr)⟩ : Chg)), row (.slice x.1 ((m.ch ++ [(⟨s2, s, (some ⟨p, 0, none⟩ : Option Addr)⟩ : Chg)]).length) x.2) ((m.ch ++ [(⟨s2, s, (some ⟨p, 0, none⟩ : Option Addr)⟩ : Chg)]).map chc) 57 3]) (Lo := fun _ => []) (F := fun _ _ => True) EN_22 rfl rfl hs [0, 2, 4] (by decide) rfl (fun _ => rfl) (fun S0 h0 l0 => kChg_ok _ S0 b m.room a m.ts.length c r1 r2 a2 c2 m.nm m.ch (⟨s2, s, (some ⟨p, 0, none⟩ : Option Addr)⟩ : Chg) (.inr ⟨_, rfl⟩) hN h0 l0) fun x6 w7 hs _ => ?_)
      replace hs : Own w S w7 [blk b [.int .i64 m.room, .slice a m.ts.length c, .map (some r1), .map (some r2), .slice x6.1 ((m.ch ++ [(⟨s2, s, (some ⟨p, 0, none⟩ : Option Addr)⟩ : Chg)]).length) x6.2, .bool false, .int .i64 0] 44, row (.slice a m.ts.length c) ((pts m.ts).map po) 52 1, mapR r1 sv Value.pointer (doC m.nm (⟨s2, s, (some ⟨p, 0, none⟩ : Option Addr)⟩ : Chg)), mapR r2 sv Value.pointer m.sf, row (.slice x6.1 ((m.ch ++ [(⟨s2, s, (some ⟨p, 0, none⟩ : Option Addr)⟩ : Chg)]).length) x6.2) ((m.ch ++ [(⟨s2, s, (some ⟨p, 0, none⟩ : Option Addr)⟩ : Chg)]).map chc) 57 3, star (m.ts.map (thR 60 5))] := hs
      refine RW_nil ?_
      refine W_seq ?_
      refine W_region ?_
      refine RW_op (L_assign (V := .int .i64 0) rfl ?_)
      refine RW_nil ?_
      refine W_ret ?_
      refine ⟨_, res_one (V := .int .i64 0) Try.results18 rfl, ?_⟩
      exact ⟨(0, chgD m ⟨s2, s, pt p⟩), rfl, dk_shut' (hs.take 6) rfl rfl rfl, .inr (.inr ⟨rfl, rfl, c4, c5⟩)⟩
    ·
      replace c5 := not_f c5
      replace c5 := of_decide_eq_true c5
      refine W_skip ?_
      refine W_seq ?_
      refine W_region ?_
      refine RW_op (L_assign (V := .int .i64 0) rfl ?_)
      refine RW_nil ?_
      refine W_ret ?_
      refine ⟨_, res_one (V := .int .i64 0) Try.results18 rfl, ?_⟩
      exact ⟨(0, m), rfl, dk_shut' (hs.take 6) rfl rfl rfl, .inr (.inl ⟨rfl, rfl, c4, c5⟩)⟩
end Tt
end Go.Proofs
namespace Go.Proofs
open Go Go.Vx Go.RowKit
namespace Tt
set_option maxRecDepth 20000 in
set_option maxHeartbeats 4000000 in
theorem kCrash_ok (w : World) (S : Nat → Prop) (b : Nat) (m : Dk) (hR : (dkR 44 60 5 52 57 b m).holds w S) (hlt : ∀ x, S x → x < w.heap.size) (hcl : CloneC Try.prog 24) (x : Int) (hx0 : 0 ≤ x) (hx1 : x < 256) (kq : Nat) (hkq : x.tmod ((m.ch.length + 1 : Nat) : Int) = (kq : Int)) (hkl : kq ≤ m.ch.length) (hcN : m.ch.length ≤ 1000000) (htN : m.ts.length ≤ 1000000) (hCh : ∀ k ∈ m.ch, k.t = none ∨ ∃ p, k.t = pt p) (hT : ∀ t ∈ m.ts, t.sf ≤ t.bs.length ∧ t.bs.length ≤ 1000000000) (ca : Option Addr) (cc : Nat) (cuts : List Int) (hcu : ∀ x ∈ cuts, 0 ≤ x ∧ x < 256) (hrc : RdX w (.slice ca cuts.length cc) 1 (cuts.map (ic .u8))) (hSc : cuts ≠ [] → ¬ S (bkS (.slice ca cuts.length cc))) (hcuN : cuts.length ≤ 1000000) : Calls Try.prog 14 #[.pointer (some ⟨b, 0, none⟩), .int .u8 x, .slice ca cuts.length cc] w (fun e w' => ∃ x : Unit, e = .returned (.int .i64 0) ∧ Own w S w' [dkR 44 60 5 52 57 b (crD m kq cuts)] ∧ True) := by
  refine calls_of_Wn (n := 109) Try.func14 rfl Try.ntmps14 rfl ?_
  have hpl := pts_len m.ts
  obtain ⟨a, c, r1, r2, a2, c2, hs⟩ := dk_open hR hlt
  replace hs : Own w S w [blk b [.int .i64 m.room, .slice a m.ts.length c, .map (some r1), .map (some r2), .slice a2 m.ch.length c2, .bool false, .int .i64 0] 44, row (.slice a m.ts.length c) ((pts m.ts).map po) 52 1, mapR r1 sv Value.pointer m.nm, mapR r2 sv Value.pointer m.sf, row (.slice a2 m.ch.length c2) (m.ch.map chc) 57 3, star (m.ts.map (thR 60 5))] := hs
  have hlk : (m.ch.take kq).length = kq := by rw [List.length_take]; omega
  have hlk2 : (List.take (kq - 0) (List.drop 0 m.ch)).length = kq := by rw [List.length_take, List.drop_zero]; omega
  refine W_seq ?_
  refine W_region ?_
  refine RW_op (L_assign (V := .int .i64 0) rfl ?_)
  refine RW_nil ?_
  refine W_seq ?_
  refine W_seq ?_
  refine W_region ?_
  refine RW_op (L_move (V := .pointer (some ⟨b, 0, none⟩)) rfl ?_)
  refine RW_op (L_callP (vs := [.pointer (some ⟨b, 0, none⟩)]) (V := .bool true) EN_25 rfl rfl ?hc hs fun w1 hs => ?_)
  case hc => exact (kGood_ok _ b (hs.cellsf 0 rfl) )
  refine RW_op (L_not rfl ?_)
  refine RW_nil ?_
  refine W_condF rfl ?_
  refine W_skip ?_
  refine W_seq ?_
  refine W_seq ?_
  refine W_regD HM [some 15, some 16, some 17, some 18, some 19, some 20, some 21, some 22, some 23, some 24, some 25, some 26, some 27, some 28, some 29, some 30] [] [0, 1, 3, 7, 0, 16, 0, 64, 192, 448, 960, 1984, 4080, 8191, 16383, 0] [pv (.pointer (some ⟨b, 0, none⟩)), pv (.pointer (some ⟨b, 0, none⟩)), pv (.pointer (some ⟨b, 0 + 4, none⟩)), pv (.slice a2 m.ch.length c2), pv (.int .u8 x), pv (.int .i64 x), pv (.pointer (some ⟨b, 0, none⟩)), pv (.pointer (some ⟨b, 0, none⟩)), pv (.pointer (some ⟨b, 0 + 4, none⟩)), pv (.slice a2 m.ch.length c2), pv (.int .i64 ((m.ch.length : Nat) : Int)), pv (.int .i64 ((m.ch.length + 1 : Nat) : Int)), pv (.int .i64 ((kq : Nat) : Int)), pv (.slice (sla a2 0 c2 3) ((m.ch.take kq).length) (c2 - 0)), pv (.int .i64 (((m.ch.take kq).length : Nat) : Int)), pv (.int .i64 0)] (fun _ _ => _) [15, 14, 13] (by kernel_rfl) hs ⟨?_, ?_, ?_, ?_, ?_, ?_, ?_, ?_, ?_, ?_, ?_, ?_, ?_, ?_, ?_, ?_, trivial⟩ ?_
  · exact ob [] [] rfl rfl fun D ρ w hs => L_move (V := .pointer (some ⟨b, 0, none⟩)) rfl ⟨rfl, hs⟩
  · exact ob [0] [] rfl rfl fun D ρ w hs => L_nilCheck rfl ⟨rfl, hs⟩
  · exact ob [1] [] rfl rfl fun D ρ w hs => L_fieldAddr FA_44_4 rfl ⟨rfl, hs⟩
  · exact ob [2] [] rfl rfl fun D ρ w hs => L_ld (V := .slice a2 m.ch.length c2) S1_42 hs 0 rfl rfl rfl ⟨rfl, hs⟩
  · exact ob [] [] rfl rfl fun D ρ w hs => L_move (V := .int .u8 x) rfl ⟨rfl, hs⟩
  · exact ob [4] [] rfl rfl fun D ρ w hs => L_conv UD_5 UD_3 rfl (wr_i64 (by omega) (by omega)) ⟨rfl, hs⟩
  · exact ob [] [] rfl rfl fun D ρ w hs => L_move (V := .pointer (some ⟨b, 0, none⟩)) rfl ⟨rfl, hs⟩
  · exact ob [6] [] rfl rfl fun D ρ w hs => L_nilCheck rfl ⟨rfl, hs⟩
  · exact ob [7] [] rfl rfl fun D ρ w hs => L_fieldAddr FA_44_4 rfl ⟨rfl, hs⟩
  · exact ob [8] [] rfl rfl fun D ρ w hs => L_ld (V := .slice a2 m.ch.length c2) S1_42 hs 0 rfl rfl rfl ⟨rfl, hs⟩
  · exact ob [9] [] rfl rfl fun D ρ w hs => L_lenR (n := m.ch.length) UD_42 (hs.rd 4 rfl) (by simp [pts_len]) rfl ⟨rfl, hs⟩
  · exact ob [10] [] rfl rfl fun D ρ w hs => L_add (a := ((m.ch.length : Nat) : Int)) (b := 1) (c := ((m.ch.length + 1 : Nat) : Int)) rfl rfl (nat_i64 (by omega) (by omega)) ⟨rfl, hs⟩
  · exact ob [5, 11] [] rfl rfl fun D ρ w hs => opW_to (V := .int .i64 (x.tmod ((m.ch.length + 1 : Nat) : Int))) (V' := .int .i64 ((kq : Nat) : Int)) (L_rem rfl rfl (by omega) rfl ⟨rfl, rfl⟩) (congrArg (Value.int .i64) hkq) ⟨rfl, hs⟩
  · exact ob [3, 12] [] rfl rfl fun D ρ w hs => L_sl (l := 0) (h := kq) (m := c2) (n' := (m.ch.take kq).length) UDR_42 SA_57.1 (hs.rd 4 rfl) rfl (.inl ⟨rfl, rfl⟩) (.inr ⟨_, _, rfl, rfl⟩) (.inl ⟨rfl, rfl⟩) (by omega) (by omega) (Nat.le_trans (show kq ≤ m.ch.length by omega) (Rd.roomM (hs.rd 4 rfl))) (Nat.le_refl _) (by simp only [List.length_take, List.length_drop] <;> omega) ⟨rfl, hs⟩
  · exact ob [13] [] rfl rfl fun D ρ w hs => L_lenR (n := (m.ch.take kq).length) UD_42 (Rd.subM (hs.rd 4 rfl) 0 kq c2 (by omega) (by omega) (Nat.le_trans (show kq ≤ m.ch.length by omega) (Rd.roomM (hs.rd 4 rfl))) (Nat.le_refl _) _ (by simp only [List.length_take, List.length_drop] <;> omega)) (by simp [pts_len]) rfl ⟨rfl, hs⟩
  · exact ob [] [] rfl rfl fun D ρ w hs => L_move (V := .int .i64 0) rfl ⟨rfl, hs⟩
  rintro ρ1 w2 ρ2 hρ hs
  replace hρ : ρ2 = upd (upd (upd (mix [15, 16, 17, 18, 19, 20, 21, 22, 23, 24, 25, 26, 27, 28, 29, 30] ρ1 _) 28 (.slice (sla a2 0 c2 3) ((m.ch.take kq).length) (c2 - 0))) 29 (.int .i64 (((m.ch.take kq).length : Nat) : Int))) 30 (.int .i64 0) := hρ
  subst hρ
  refine W_block ?_
  refine W_loopI (fun ρ μ ρ' w' => ∃ (ρo : Env) (j : Nat), ρ' = upd (mix [8, 30, 31, 32, 33, 34, 35, 36, 37, 38, 39, 40] ρo ρ) 30 (.int .i64 ((j : Nat) : Int)) ∧ (j ≤ kq) ∧ μ = kq - j ∧ Own w S w' [blk b [.int .i64 m.room, .slice a m.ts.length c, .map (some r1), .map (some r2), .slice a2 m.ch.length c2, .bool false, .int .i64 0] 44, row (.slice a m.ts.length c) ((pts m.ts).map po) 52 1, mapR r1 sv Value.pointer m.nm, mapR r2 sv Value.pointer (doAll m.sf ((m.ch.take kq).take j)), row (.slice a2 m.ch.length c2) (m.ch.map chc) 57 3, star (m.ts.map (thR 60 5))]) ?_ ?_
  · exact ⟨_, _, 0, upd_of (mix_of (ds := [8, 30, 31, 32, 33, 34, 35, 36, 37, 38, 39, 40]) (Agr.refl _ _)) rfl, (Nat.zero_le _), rfl, hs⟩
  · rintro μ ρ' w3 ⟨ρo, j, rfl, hj, rfl, hs⟩
    refine W_seq ?_
    refine W_region ?_
    refine RW_op (L_lss rfl rfl ?_)
    refine RW_nil ?_
    refine W_seq ?_
    refine W_cond (t := decide (((j : Nat) : Int) < (((m.ch.take kq).length : Nat) : Int))) rfl (fun c4 => ?_) (fun c4 => ?_)
    ·
      replace c4 := of_decide_eq_true c4
      refine W_skip ?_
      refine W_seq ?_
      refine W_block ?_
      refine W_seq ?_
      refine W_region ?_
      refine RW_op (L_ixR UD_42 SA_57.1 (Rd.subM (hs.rd 4 rfl) 0 kq c2 (by omega) (by omega) (Nat.le_trans (show kq ≤ m.ch.length by omega) (Rd.roomM (hs.rd 4 rfl))) (Nat.le_refl _) _ (by simp only [List.length_take, List.length_drop] <;> omega)) rfl rfl (by omega) (by rw [List.length_map]; omega) ?_)
      refine RW_op (L_ldRA (j := 0) (vs := chc (gd (m.ch.take kq) j)) j SA_57 (Rd.subM (hs.rd 4 rfl) 0 kq c2 (by omega) (by omega) (Nat.le_trans (show kq ≤ m.ch.length by omega) (Rd.roomM (hs.rd 4 rfl))) (Nat.le_refl _) _ (by simp only [List.length_take, List.length_drop] <;> omega)) (gd_at (by omega)) rfl rfl rfl (by omega) ?_)
      refine RW_op (L_alloc (cs := chc (⟨[], [], none⟩ : Chg)) ZV_57 rfl hs fun b5 w6 hs => ?_)
      refine RW_op (L_st (V := .agg (chc (gd (m.ch.take kq) j)).toArray) (vs := chc (gd (m.ch.take kq) j)) (cs' := chc (gd (m.ch.take kq) j)) SA_57.1 hs 6 rfl rfl rfl rfl rfl (Nat.le_of_ble_eq_true rfl) (chc_one _) (spl_whole rfl) fun w7 hs => ?_)
      refine RW_nil ?_
      refine W_regD HM [some 34, some 35, some 36, some 37, some 38, some 39] [] [0, 0, 2, 6, 14, 31] [pv (.agg (chc (gd (m.ch.take kq) j)).toArray), pv (.pointer (some ⟨b, 0, none⟩)), pv (.pointer (some ⟨b, 0, none⟩)), pv (.pointer (some ⟨b, 0 + 3, none⟩)), pv (.map (some r2)), pv (.tuple #[])] (fun D ρ => [blk b [.int .i64 m.room, .slice a m.ts.length c, .map (some r1), .map (some r2), .slice a2 m.ch.length c2, .bool false, .int .i64 0] 44, row (.slice a m.ts.length c) ((pts m.ts).map po) 52 1, mapR r1 sv Value.pointer m.nm, cond (D 5) (mapR r2 sv Value.pointer (doC (doAll m.sf ((m.ch.take kq).take j)) (gd (m.ch.take kq) j))) (mapR r2 sv Value.pointer (doAll m.sf ((m.ch.take kq).take j))), row (.slice a2 m.ch.length c2) (m.ch.map chc) 57 3, star (m.ts.map (thR 60 5)), blk b5 (chc (gd (m.ch.take kq) j)) 57]) [] (by kernel_rfl) hs ⟨?_, ?_, ?_, ?_, ?_, ?_, trivial⟩ ?_
      · exact ob [] [] rfl rfl fun D ρ w hs => L_ldW (cs := chc (gd (m.ch.take kq) j)) SA_57 hs 6 rfl rfl rfl ⟨rfl, hs⟩
      · exact ob [] [] rfl rfl fun D ρ w hs => L_move (V := .pointer (some ⟨b, 0, none⟩)) rfl ⟨rfl, hs⟩
      · exact ob [1] [] rfl rfl fun D ρ w hs => L_nilCheck rfl ⟨rfl, hs⟩
      · exact ob [2] [] rfl rfl fun D ρ w hs => L_fieldAddr FA_44_3 rfl ⟨rfl, hs⟩
      · exact ob [3] [] rfl rfl fun D ρ w hs => L_ld (V := .map (some r2)) S1_41 hs 0 rfl rfl rfl ⟨rfl, hs⟩
      · exact ob [0, 4] [] rfl rfl fun D ρ w hs => L_callB (vs := [.agg (chc (gd (m.ch.take kq) j)).toArray, .map (some r2)]) (V := fun _ : Unit => .tuple #[]) (R := mapR r2 sv Value.pointer (doAll m.sf ((m.ch.take kq).take j))) (R' := fun _ => mapR r2 sv Value.pointer (doC (doAll m.sf ((m.ch.take kq).take j)) (gd (m.ch.take kq) j))) (Lo := fun _ => []) (F := fun _ _ => True) EN_26 rfl rfl hs 3 rfl (fun S0 hS0 hlt0 => do_ok _ S0 r2 (doAll m.sf ((m.ch.take kq).take j)) (gd (m.ch.take kq) j) (hCh _ (List.mem_of_mem_take (gd_mem (by omega)))) hS0 hlt0) fun _ _ hs _ => ⟨rfl, hs⟩
      rintro ρ1 w8 ρ2 hρ hs
      replace hρ : ρ2 = mix [34, 35, 36, 37, 38, 39] ρ1 _ := hρ
      replace hs : Own w S w8 [blk b [.int .i64 m.room, .slice a m.ts.length c, .map (some r1), .map (some r2), .slice a2 m.ch.length c2, .bool false, .int .i64 0] 44, row (.slice a m.ts.length c) ((pts m.ts).map po) 52 1, mapR r1 sv Value.pointer m.nm, mapR r2 sv Value.pointer (doC (doAll m.sf ((m.ch.take kq).take j)) (gd (m.ch.take kq) j)), row (.slice a2 m.ch.length c2) (m.ch.map chc) 57 3, star (m.ts.map (thR 60 5)), blk b5 (chc (gd (m.ch.take kq) j)) 57] := hs
      subst hρ
      refine W_region ?_
      refine RW_op (L_add (a := ((j : Nat) : Int)) (b := 1) (c := ((j + 1 : Nat) : Int)) rfl rfl (nat_i64 (by omega) (by omega)) ?_)
      refine RW_op (L_move (V := .int .i64 ((j + 1 : Nat) : Int)) rfl ?_)
      refine RW_nil ?_
      rw [doAll_step (by omega)] at hs
      refine ⟨_, ?_, _, j + 1, upd_of (mix_of (ds := [8, 30, 31, 32, 33, 34, 35, 36, 37, 38, 39, 40]) (by repeat (first | exact Agr.refl _ _ | refine Agr.upd ?_ rfl | refine Agr.mix ?_ rfl))) rfl, (by omega), rfl, hs.take 6⟩
      omega
    ·
      replace c4 := of_decide_eq_false c4
      refine W_exit ?_
      refine W_seq ?_
      refine W_seq ?_
      have hje : j = kq := by omega
      rw [hje, List.take_take, Nat.min_self] at hs
      refine W_region ?_
      refine RW_op (L_move (V := .pointer (some ⟨b, 0, none⟩)) rfl ?_)
      refine RW_op (L_nilCheck rfl ?_)
      refine RW_op (L_fieldAddr FA_44_1 rfl ?_)
      refine RW_op (L_ld (V := .slice a m.ts.length c) S1_40 hs 0 rfl rfl rfl ?_)
      refine RW_op (L_lenR (n := m.ts.length) UD_40 (hs.rd 1 rfl) (by simp [pts_len]) rfl ?_)
      refine RW_op (L_move (V := .int .i64 0) rfl ?_)
      refine RW_nil ?_
      refine W_block ?_
      replace hs := hs.conv 5 (R' := star ((crT cuts m.ts 0).map (thR 60 5))) rfl (fun S h => by rw [crT_zero]; exact h)
      refine W_loopI (fun ρ μ ρ' w' => ∃ (ρo : Env) (i : Nat), ρ' = upd (mix [9, 10, 11, 46, 47, 48, 49, 50, 51, 52, 53, 54, 55, 56, 57, 58, 59, 60, 61, 62, 63, 64, 65, 66, 67, 68, 69, 70, 71, 72, 73, 74, 75, 76, 77, 78, 79, 80, 81, 82, 83, 84, 85, 86, 87, 88, 89, 90, 91, 92, 93, 94] ρo ρ) 46 (.int .i64 ((i : Nat) : Int)) ∧ (i ≤ m.ts.length) ∧ μ = m.ts.length - i ∧ Own w S w' [blk b [.int .i64 m.room, .slice a m.ts.length c, .map (some r1), .map (some r2), .slice a2 m.ch.length c2, .bool false, .int .i64 0] 44, row (.slice a m.ts.length c) ((pts m.ts).map po) 52 1, mapR r1 sv Value.pointer m.nm, mapR r2 sv Value.pointer (doAll m.sf (m.ch.take kq)), row (.slice a2 m.ch.length c2) (m.ch.map chc) 57 3, star ((crT cuts m.ts i).map (thR 60 5))]) ?_ ?_
      · exact ⟨_, _, 0, upd_of (mix_of (ds := [9, 10, 11, 46, 47, 48, 49, 50, 51, 52, 53, 54, 55, 56, 57, 58, 59, 60, 61, 62, 63, 64, 65, 66, 67, 68, 69, 70, 71, 72, 73, 74, 75, 76, 77, 78, 79, 80, 81, 82, 83, 84, 85, 86, 87, 88, 89, 90, 91, 92, 93, 94]) (Agr.refl _ _)) rfl, (Nat.zero_le _), rfl, hs⟩
      · rintro μ ρ' w9 ⟨ρo, i, rfl, hi0, rfl, hs⟩
        refine W_seq ?_
        refine W_region ?_
        refine RW_op (L_lss rfl rfl ?_)
        refine RW_nil ?_
        refine W_seq ?_
        refine W_cond (t := decide (((i : Nat) : Int) < ((m.ts.length : Nat) : Int))) rfl (fun c10 => ?_) (fun c10 => ?_)
        ·
          replace c10 := of_decide_eq_true c10
          refine W_skip ?_
          refine W_seq ?_
          refine W_block ?_
          refine W_seq ?_
          have hil : i < m.ts.length := by omega
          obtain ⟨t, hti⟩ : ∃ t, m.ts[i]? = some t := ⟨_, List.getElem?_eq_getElem hil⟩
          have hsf := hT t (List.mem_of_getElem? hti)
          obtain ⟨ta, tc, hs⟩ := th_out hs 5 i rfl (crT_at (cuts := cuts) hti)
          replace hs : Own w S _ [blk b [.int .i64 m.room, .slice a m.ts.length c, .map (some r1), .map (some r2), .slice a2 m.ch.length c2, .bool false, .int .i64 0] 44, row (.slice a m.ts.length c) ((pts m.ts).map po) 52 1, mapR r1 sv Value.pointer m.nm, mapR r2 sv Value.pointer (doAll m.sf (m.ch.take kq)), row (.slice a2 m.ch.length c2) (m.ch.map chc) 57 3, star (((crT cuts m.ts i).map (thR 60 5)).set i emp), blk t.p [.slice ta t.bs.length tc, .int .i64 ((t.sf : Nat) : Int)] 60, row (.slice ta t.bs.length tc) (t.bs.map (ic .u8)) 5 1] := hs
          refine W_region ?_
          refine RW_op (L_move (V := .int .i64 ((i : Nat) : Int)) rfl ?_)
          refine RW_op (L_ixR UD_40 S1_52.1 (hs.rd 1 rfl) rfl rfl (by omega) (by rw [List.length_map]; omega) ?_)
          refine RW_op (opW_to (V := .pointer (gd (pts m.ts) i)) (V' := .pointer (some ⟨t.p, 0, none⟩)) (L_ldR (j := 0) (V := .pointer (gd (pts m.ts) i)) i S1_52 (hs.rd 1 rfl) (gd_at (by omega)) rfl rfl (by omega) ⟨rfl, rfl⟩) (congrArg Value.pointer (pts_gd hti)) ?_)
          refine RW_op (L_assign (V := .int .i64 ((i : Nat) : Int)) rfl ?_)
          refine RW_op (L_assign (V := .pointer (some ⟨t.p, 0, none⟩)) rfl ?_)
          refine RW_nil ?_
          refine W_seq ?_
          refine W_region ?_
          refine RW_op (L_move (V := .pointer (some ⟨t.p, 0, none⟩)) rfl ?_)
          refine RW_op (L_nilCheck rfl ?_)
          refine RW_op (L_fieldAddr FA_60_1 rfl ?_)
          refine RW_op (L_ld (V := .int .i64 ((t.sf : Nat) : Int)) S1_3 hs 6 rfl rfl rfl ?_)
          refine RW_op (L_assign (V := .int .i64 ((t.sf : Nat) : Int)) rfl ?_)
          refine RW_nil ?_
          refine W_seq ?_
          refine W_seq ?_
          refine W_region ?_
          refine RW_op (L_move (V := .slice ca cuts.length cc) rfl ?_)
          refine RW_op (L_lenX (n := cuts.length) UD_23 ((fun h hs => RdX.own h hs (fun q => hSc (by intro e; exact q (by rw [e]; rfl)))) hrc hs) (by simp) rfl ?_)
          refine RW_op (L_gtr rfl rfl ?_)
          refine RW_nil ?_
          refine W_cond (t := decide (0 < ((cuts.length : Nat) : Int))) rfl (fun c11 => ?_) (fun c11 => ?_)
          ·
            replace c11 := of_decide_eq_true c11
            have hcl : ¬ cuts.length = 0 := by omega
            have hmod : i % cuts.length < cuts.length := Nat.mod_lt _ (by omega)
            have hcn : (gd cuts (i % cuts.length)).toNat % (t.bs.length - t.sf + 1) < t.bs.length - t.sf + 1 := Nat.mod_lt _ (by omega)
            have hcb := hcu _ (gd_mem (l := cuts) (i := i % cuts.length) hmod)
            refine W_regD HM [some 58, some 59, some 60, some 61, some 62, some 63, some 64, some 65, some 66, some 67, some 68, some 69, some 70, some 71, some 72, some 73, some 74, some 75, some 76, some 77, some 78, some 79, some 11] [] [0, 0, 0, 0, 8, 28, 62, 126, 254, 0, 512, 1536, 3584, 7680, 0, 16384, 49152, 114688, 261632, 523776, 1048574, 2097151, 4194303] [pv (.int .i64 ((t.sf : Nat) : Int)), pv (.slice ca cuts.length cc), pv (.int .i64 ((i : Nat) : Int)), pv (.slice ca cuts.length cc), pv (.int .i64 ((cuts.length : Nat) : Int)), pv (.int .i64 ((i % cuts.length : Nat) : Int)), pv (.pointer (some ⟨bkS (.slice ca cuts.length cc), ofS (.slice ca cuts.length cc) + ((i % cuts.length : Nat) : Int).toNat * 1, none⟩)), pv (.int .u8 (gd cuts (i % cuts.length))), pv (.int .i64 (gd cuts (i % cuts.length))), pv (.pointer (some ⟨t.p, 0, none⟩)), pv (.pointer (some ⟨t.p, 0, none⟩)), pv (.pointer (some ⟨t.p, 0 + 0, none⟩)), pv (.slice ta t.bs.length tc), pv (.int .i64 ((t.bs.length : Nat) : Int)), pv (.pointer (some ⟨t.p, 0, none⟩)), pv (.pointer (some ⟨t.p, 0, none⟩)), pv (.pointer (some ⟨t.p, 0 + 1, none⟩)), pv (.int .i64 ((t.sf : Nat) : Int)), pv (.int .i64 ((t.bs.length - t.sf : Nat) : Int)), pv (.int .i64 (((t.bs.length - t.sf) + 1 : Nat) : Int)), pv (.int .i64 (((gd cuts (i % cuts.length)).toNat % (t.bs.length - t.sf + 1) : Nat) : Int)), pv (.int .i64 ((t.sf + ((gd cuts (i % cuts.length)).toNat % (t.bs.length - t.sf + 1)) : Nat) : Int)), pv (.int .i64 ((t.sf + ((gd cuts (i % cuts.length)).toNat % (t.bs.length - t.sf + 1)) : Nat) : Int))] (fun _ _ => _) [22] (by kernel_rfl) hs ⟨?_, ?_, ?_, ?_, ?_, ?_, ?_, ?_, ?_, ?_, ?_, ?_, ?_, ?_, ?_, ?_, ?_, ?_, ?_, ?_, ?_, ?_, ?_, trivial⟩ ?_
            · exact ob [] [22] rfl rfl fun D ρ w hs => L_move (V := .int .i64 ((t.sf : Nat) : Int)) rfl ⟨rfl, hs⟩
            · exact ob [] [] rfl rfl fun D ρ w hs => L_move (V := .slice ca cuts.length cc) rfl ⟨rfl, hs⟩
            · exact ob [] [] rfl rfl fun D ρ w hs => L_move (V := .int .i64 ((i : Nat) : Int)) rfl ⟨rfl, hs⟩
            · exact ob [] [] rfl rfl fun D ρ w hs => L_move (V := .slice ca cuts.length cc) rfl ⟨rfl, hs⟩
            · exact ob [3] [] rfl rfl fun D ρ w hs => L_lenX (n := cuts.length) UD_23 ((fun h hs => RdX.own h hs (fun q => hSc (by intro e; exact q (by rw [e]; rfl)))) hrc hs) (by simp) rfl ⟨rfl, hs⟩
            · exact ob [2, 4] [] rfl rfl fun D ρ w hs => opW_to (V := .int .i64 (((i : Nat) : Int).tmod ((cuts.length : Nat) : Int))) (V' := .int .i64 ((i % cuts.length : Nat) : Int)) (L_rem rfl rfl (by omega) rfl ⟨rfl, rfl⟩) (congrArg (Value.int .i64) (tmodN _ _)) ⟨rfl, hs⟩
            · exact ob [1, 5] [] rfl rfl fun D ρ w hs => L_ixR UD_23 S1_5.1 (RdX.pos ((fun h hs => RdX.own h hs (fun q => hSc (by intro e; exact q (by rw [e]; rfl)))) hrc hs) (by rw [List.length_map]; omega)) rfl rfl (by omega) (by rw [List.length_map]; omega) ⟨rfl, hs⟩
            · exact ob [6] [] rfl rfl fun D ρ w hs => L_ldR (j := 0) (V := .int .u8 (gd cuts (i % cuts.length))) (i % cuts.length) S1_5 (RdX.pos ((fun h hs => RdX.own h hs (fun q => hSc (by intro e; exact q (by rw [e]; rfl)))) hrc hs) (by rw [List.length_map]; omega)) (gd_at (by omega)) rfl rfl (by omega) ⟨rfl, hs⟩
            · exact ob [7] [] rfl rfl fun D ρ w hs => L_conv UD_5 UD_3 rfl (wr_i64 (by omega) (by omega)) ⟨rfl, hs⟩
            · exact ob [] [] rfl rfl fun D ρ w hs => L_move (V := .pointer (some ⟨t.p, 0, none⟩)) rfl ⟨rfl, hs⟩
            · exact ob [9] [] rfl rfl fun D ρ w hs => L_nilCheck rfl ⟨rfl, hs⟩
            · exact ob [10] [] rfl rfl fun D ρ w hs => L_fieldAddr FA_60_0 rfl ⟨rfl, hs⟩
            · exact ob [11] [] rfl rfl fun D ρ w hs => L_ld (V := .slice ta t.bs.length tc) S1_23 hs 6 rfl rfl rfl ⟨rfl, hs⟩
            · exact ob [12] [] rfl rfl fun D ρ w hs => L_lenR (n := t.bs.length) UD_23 (hs.rd 7 rfl) (by simp [pts_len]) rfl ⟨rfl, hs⟩
            · exact ob [] [] rfl rfl fun D ρ w hs => L_move (V := .pointer (some ⟨t.p, 0, none⟩)) rfl ⟨rfl, hs⟩
            · exact ob [14] [] rfl rfl fun D ρ w hs => L_nilCheck rfl ⟨rfl, hs⟩
            · exact ob [15] [] rfl rfl fun D ρ w hs => L_fieldAddr FA_60_1 rfl ⟨rfl, hs⟩
            · exact ob [16] [] rfl rfl fun D ρ w hs => L_ld (V := .int .i64 ((t.sf : Nat) : Int)) S1_3 hs 6 rfl rfl rfl ⟨rfl, hs⟩
            · exact ob [13, 17] [] rfl rfl fun D ρ w hs => L_sub (a := ((t.bs.length : Nat) : Int)) (b := ((t.sf : Nat) : Int)) (c := ((t.bs.length - t.sf : Nat) : Int)) rfl rfl (nat_i64 (by omega) (by omega)) ⟨rfl, hs⟩
            · exact ob [18] [] rfl rfl fun D ρ w hs => L_add (a := ((t.bs.length - t.sf : Nat) : Int)) (b := 1) (c := (((t.bs.length - t.sf) + 1 : Nat) : Int)) rfl rfl (nat_i64 (by omega) (by omega)) ⟨rfl, hs⟩
            · exact ob [8, 19] [] rfl rfl fun D ρ w hs => opW_to (V := .int .i64 ((gd cuts (i % cuts.length)).tmod (((t.bs.length - t.sf) + 1 : Nat) : Int))) (V' := .int .i64 (((gd cuts (i % cuts.length)).toNat % (t.bs.length - t.sf + 1) : Nat) : Int)) (L_rem rfl rfl (by omega) rfl ⟨rfl, rfl⟩) (congrArg (Value.int .i64) (tmodZ hcb.1)) ⟨rfl, hs⟩
            · exact ob [0, 20] [] rfl rfl fun D ρ w hs => L_add (a := ((t.sf : Nat) : Int)) (b := (((gd cuts (i % cuts.length)).toNat % (t.bs.length - t.sf + 1) : Nat) : Int)) (c := ((t.sf + ((gd cuts (i % cuts.length)).toNat % (t.bs.length - t.sf + 1)) : Nat) : Int)) rfl rfl (nat_i64 (by omega) (by omega)) ⟨rfl, hs⟩
            · exact ob [21] [] rfl rfl fun D ρ w hs => L_assign (V := .int .i64 ((t.sf + ((gd cuts (i % cuts.length)).toNat % (t.bs.length - t.sf + 1)) : Nat) : Int)) rfl ⟨rfl, hs⟩
            rintro ρ1 w12 ρ2 hρ hs
            replace hρ : ρ2 = upd (mix [58, 59, 60, 61, 62, 63, 64, 65, 66, 67, 68, 69, 70, 71, 72, 73, 74, 75, 76, 77, 78, 79, 11] ρ1 _) 11 (.int .i64 ((t.sf + ((gd cuts (i % cuts.length)).toNat % (t.bs.length - t.sf + 1)) : Nat) : Int)) := hρ
            subst hρ
            refine W_seq ?_
            refine W_region ?_
            refine RW_op (L_move (V := .pointer (some ⟨t.p, 0, none⟩)) rfl ?_)
            refine RW_op (L_move (V := .pointer (some ⟨t.p, 0, none⟩)) rfl ?_)
            refine RW_op (L_nilCheck rfl ?_)
            refine RW_op (L_fieldAddr FA_60_0 rfl ?_)
            refine RW_op (L_ld (V := .slice ta t.bs.length tc) S1_23 hs 6 rfl rfl rfl ?_)
            refine RW_op (L_move (V := .int .i64 ((t.sf + ((gd cuts (i % cuts.length)).toNat % (t.bs.length - t.sf + 1)) : Nat) : Int)) rfl ?_)
            refine RW_op (L_sl (l := 0) (h := t.sf + ((gd cuts (i % cuts.length)).toNat % (t.bs.length - t.sf + 1))) (m := tc) (n' := (t.bs.take (t.sf + ((gd cuts (i % cuts.length)).toNat % (t.bs.length - t.sf + 1)))).length) UDR_23 S1_5.1 (hs.rd 7 rfl) rfl (.inl ⟨rfl, rfl⟩) (.inr ⟨_, _, rfl, rfl⟩) (.inl ⟨rfl, rfl⟩) (by omega) (by omega) (Nat.le_trans (show (t.sf + ((gd cuts (i % cuts.length)).toNat % (t.bs.length - t.sf + 1))) ≤ t.bs.length by omega) (Rd.roomM (hs.rd 7 rfl))) (Nat.le_refl _) (by simp only [List.length_take, List.length_drop] <;> omega) ?_)
            refine RW_op (L_callX (vs := [.slice (sla ta 0 tc 1) ((t.bs.take (t.sf + ((gd cuts (i % cuts.length)).toNat % (t.bs.length - t.sf + 1)))).length) (tc - 0)]) (V := fun x : Option Addr × Nat => .slice x.1 ((t.bs.take (t.sf + ((gd cuts (i % cuts.length)).toNat % (t.bs.length - t.sf + 1))))).length x.2) EN_27 rfl rfl (clnB_ok _ (sla ta 0 tc 1) (tc - 0) (t.bs.take (t.sf + ((gd cuts (i % cuts.length)).toNat % (t.bs.length - t.sf + 1)))) (by simp only [List.length_take]; omega) (Rd.subM (hs.rd 7 rfl) 0 (t.sf + ((gd cuts (i % cuts.length)).toNat % (t.bs.length - t.sf + 1))) tc (by omega) (by omega) (Nat.le_trans (show (t.sf + ((gd cuts (i % cuts.length)).toNat % (t.bs.length - t.sf + 1))) ≤ t.bs.length by omega) (Rd.roomM (hs.rd 7 rfl))) (Nat.le_refl _) _ (by simp only [List.length_take, List.length_drop] <;> omega))) hs fun x13 w14 hs _ => ?_)
            refine RW_op (L_nilCheck rfl ?_)
            refine RW_op (L_fieldAddr FA_60_0 rfl ?_)
            refine RW_op (L_st1 (V := .slice x13.1 (((t.bs.take (t.sf + ((gd cuts (i % cuts.length)).toNat % (t.bs.length - t.sf + 1))))).length) x13.2) (cs' := [.slice x13.1 (((t.bs.take (t.sf + ((gd cuts (i % cuts.length)).toNat % (t.bs.length - t.sf + 1))))).length) x13.2, .int .i64 ((t.sf : Nat) : Int)]) S1_23 hs 6 rfl rfl rfl rfl (Nat.le_of_ble_eq_true rfl) rfl fun w15 hs => ?_)
            refine RW_nil ?_
            refine W_region ?_
            refine RW_op (L_move (V := .pointer (some ⟨t.p, 0, none⟩)) rfl ?_)
            refine RW_op (L_move (V := .int .i64 ((t.sf + ((gd cuts (i % cuts.length)).toNat % (t.bs.length - t.sf + 1)) : Nat) : Int)) rfl ?_)
            refine RW_op (L_nilCheck rfl ?_)
            refine RW_op (L_fieldAddr FA_60_1 rfl ?_)
            refine RW_op (L_st1 (V := .int .i64 ((t.sf + ((gd cuts (i % cuts.length)).toNat % (t.bs.length - t.sf + 1)) : Nat) : Int)) (cs' := [.slice x13.1 (((t.bs.take (t.sf + ((gd cuts (i % cuts.length)).toNat % (t.bs.length - t.sf + 1))))).length) x13.2, .int .i64 ((t.sf + ((gd cuts (i % cuts.length)).toNat % (t.bs.length - t.sf + 1)) : Nat) : Int)]) S1_3 hs 6 rfl rfl rfl rfl (Nat.le_of_ble_eq_true rfl) rfl fun w16 hs => ?_)
            refine RW_nil ?_
            refine W_region ?_
            refine RW_op (L_add (a := ((i : Nat) : Int)) (b := 1) (c := ((i + 1 : Nat) : Int)) rfl rfl (nat_i64 (by omega) (by omega)) ?_)
            refine RW_op (L_move (V := .int .i64 ((i + 1 : Nat) : Int)) rfl ?_)
            refine RW_nil ?_
            have hcr : crt cuts i t = { t with bs := t.bs.take (t.sf + ((gd cuts (i % cuts.length)).toNat % (t.bs.length - t.sf + 1))), sf := t.sf + ((gd cuts (i % cuts.length)).toNat % (t.bs.length - t.sf + 1)) } := by unfold crt cutN; simp only [if_neg hcl]
            replace hs := th_in hs 5 6 8 i (by decide) (by decide) (by decide) (ts := crT cuts m.ts i) (t := { t with bs := t.bs.take (t.sf + ((gd cuts (i % cuts.length)).toNat % (t.bs.length - t.sf + 1))), sf := t.sf + ((gd cuts (i % cuts.length)).toNat % (t.bs.length - t.sf + 1)) }) (a := x13.1) (c := x13.2) rfl (by rw [crT_len]; exact hil) rfl rfl
            rw [← hcr, crT_step hti] at hs
            refine ⟨_, ?_, _, i + 1, upd_of (mix_of (ds := [9, 10, 11, 46, 47, 48, 49, 50, 51, 52, 53, 54, 55, 56, 57, 58, 59, 60, 61, 62, 63, 64, 65, 66, 67, 68, 69, 70, 71, 72, 73, 74, 75, 76, 77, 78, 79, 80, 81, 82, 83, 84, 85, 86, 87, 88, 89, 90, 91, 92, 93, 94]) (by repeat (first | exact Agr.refl _ _ | refine Agr.upd ?_ rfl | refine Agr.mix ?_ rfl))) rfl, (by omega), rfl, hs.take 6⟩
            omega
          ·
            replace c11 := of_decide_eq_false c11
            refine W_skip ?_
            refine W_seq ?_
            have hcl : cuts.length = 0 := by omega
            refine W_region ?_
            refine RW_op (L_move (V := .pointer (some ⟨t.p, 0, none⟩)) rfl ?_)
            refine RW_op (L_move (V := .pointer (some ⟨t.p, 0, none⟩)) rfl ?_)
            refine RW_op (L_nilCheck rfl ?_)
            refine RW_op (L_fieldAddr FA_60_0 rfl ?_)
            refine RW_op (L_ld (V := .slice ta t.bs.length tc) S1_23 hs 6 rfl rfl rfl ?_)
            refine RW_op (L_move (V := .int .i64 ((t.sf : Nat) : Int)) rfl ?_)
            refine RW_op (L_sl (l := 0) (h := t.sf) (m := tc) (n' := (t.bs.take t.sf).length) UDR_23 S1_5.1 (hs.rd 7 rfl) rfl (.inl ⟨rfl, rfl⟩) (.inr ⟨_, _, rfl, rfl⟩) (.inl ⟨rfl, rfl⟩) (by omega) (by omega) (Nat.le_trans (show t.sf ≤ t.bs.length by omega) (Rd.roomM (hs.rd 7 rfl))) (Nat.le_refl _) (by simp only [List.length_take, List.length_drop] <;> omega) ?_)
            refine RW_op (L_callX (vs := [.slice (sla ta 0 tc 1) ((t.bs.take t.sf).length) (tc - 0)]) (V := fun x : Option Addr × Nat => .slice x.1 ((t.bs.take t.sf)).length x.2) EN_27 rfl rfl (clnB_ok _ (sla ta 0 tc 1) (tc - 0) (t.bs.take t.sf) (by simp only [List.length_take]; omega) (Rd.subM (hs.rd 7 rfl) 0 t.sf tc (by omega) (by omega) (Nat.le_trans (show t.sf ≤ t.bs.length by omega) (Rd.roomM (hs.rd 7 rfl))) (Nat.le_refl _) _ (by simp only [List.length_take, List.length_drop] <;> omega))) hs fun x17 w18 hs _ => ?_)
            refine RW_op (L_nilCheck rfl ?_)
            refine RW_op (L_fieldAddr FA_60_0 rfl ?_)
            refine RW_op (L_st1 (V := .slice x17.1 (((t.bs.take t.sf)).length) x17.2) (cs' := [.slice x17.1 (((t.bs.take t.sf)).length) x17.2, .int .i64 ((t.sf : Nat) : Int)]) S1_23 hs 6 rfl rfl rfl rfl (Nat.le_of_ble_eq_true rfl) rfl fun w19 hs => ?_)
            refine RW_nil ?_
            refine W_region ?_
            refine RW_op (L_move (V := .pointer (some ⟨t.p, 0, none⟩)) rfl ?_)
            refine RW_op (L_move (V := .int .i64 ((t.sf : Nat) : Int)) rfl ?_)
            refine RW_op (L_nilCheck rfl ?_)
            refine RW_op (L_fieldAddr FA_60_1 rfl ?_)
            refine RW_op (L_st1 (V := .int .i64 ((t.sf : Nat) : Int)) (cs' := [.slice x17.1 (((t.bs.take t.sf)).length) x17.2, .int .i64 ((t.sf : Nat) : Int)]) S1_3 hs 6 rfl rfl rfl rfl (Nat.le_of_ble_eq_true rfl) rfl fun w20 hs => ?_)
            refine RW_nil ?_
            refine W_region ?_
            refine RW_op (L_add (a := ((i : Nat) : Int)) (b := 1) (c := ((i + 1 : Nat) : Int)) rfl rfl (nat_i64 (by omega) (by omega)) ?_)
            refine RW_op (L_move (V := .int .i64 ((i + 1 : Nat) : Int)) rfl ?_)
            refine RW_nil ?_
            have hcr : crt cuts i t = { t with bs := t.bs.take t.sf, sf := t.sf } := by unfold crt cutN; simp only [if_pos hcl]
            replace hs := th_in hs 5 6 8 i (by decide) (by decide) (by decide) (ts := crT cuts m.ts i) (t := { t with bs := t.bs.take t.sf, sf := t.sf }) (a := x17.1) (c := x17.2) rfl (by rw [crT_len]; exact hil) rfl rfl
            rw [← hcr, crT_step hti] at hs
            refine ⟨_, ?_, _, i + 1, upd_of (mix_of (ds := [9, 10, 11, 46, 47, 48, 49, 50, 51, 52, 53, 54, 55, 56, 57, 58, 59, 60, 61, 62, 63, 64, 65, 66, 67, 68, 69, 70, 71, 72, 73, 74, 75, 76, 77, 78, 79, 80, 81, 82, 83, 84, 85, 86, 87, 88, 89, 90, 91, 92, 93, 94]) (by repeat (first | exact Agr.refl _ _ | refine Agr.upd ?_ rfl | refine Agr.mix ?_ rfl))) rfl, (by omega), rfl, hs.take 6⟩
            omega
        ·
          replace c10 := of_decide_eq_false c10
          refine W_exit ?_
          refine W_seq ?_
          refine W_region ?_
          refine RW_op (L_move (V := .pointer (some ⟨b, 0, none⟩)) rfl ?_)
          refine RW_op (L_move (V := .pointer (some ⟨b, 0, none⟩)) rfl ?_)
          refine RW_op (L_nilCheck rfl ?_)
          refine RW_op (L_fieldAddr FA_44_3 rfl ?_)
          refine RW_op (L_ld (V := .map (some r2)) S1_41 hs 0 rfl rfl rfl ?_)
          refine RW_op (L_callX (vs := [.map (some r2)]) (V := fun x : Nat => .map (some x)) (Lo := fun x => [mapR x sv Value.pointer (doAll m.sf (m.ch.take kq))]) (F := fun _ _ => True) EN_24 rfl rfl ?hc hs fun x21 w22 hs _ => ?_)
          case hc => exact (hcl _ r2 (doAll m.sf (m.ch.take kq)) (hs.mapf 3 rfl))
          refine RW_op (L_nilCheck rfl ?_)
          refine RW_op (L_fieldAddr FA_44_2 rfl ?_)
          refine RW_op (L_st1 (V := .map (some x21)) (cs' := [.int .i64 m.room, .slice a m.ts.length c, .map (some x21), .map (some r2), .slice a2 m.ch.length c2, .bool false, .int .i64 0]) S1_41 hs 0 rfl rfl rfl rfl (Nat.le_of_ble_eq_true rfl) rfl fun w23 hs => ?_)
          refine RW_nil ?_
          refine W_seq ?_
          refine W_region ?_
          refine RW_op (L_move (V := .pointer (some ⟨b, 0, none⟩)) rfl ?_)
          refine RW_op (L_nilCheck rfl ?_)
          refine RW_op (L_fieldAddr FA_44_4 rfl ?_)
          refine RW_op (L_st1 (V := .slice none 0 0) (cs' := [.int .i64 m.room, .slice a m.ts.length c, .map (some x21), .map (some r2), .slice none 0 0, .bool false, .int .i64 0]) S1_42 hs 0 rfl rfl rfl rfl (Nat.le_of_ble_eq_true rfl) rfl fun w24 hs => ?_)
          refine RW_nil ?_
          refine W_seq ?_
          refine W_region ?_
          refine RW_op (L_move (V := .pointer (some ⟨b, 0, none⟩)) rfl ?_)
          refine RW_op (L_nilCheck rfl ?_)
          refine RW_op (L_fieldAddr FA_44_5 rfl ?_)
          refine RW_op (L_st1 (V := .bool false) (cs' := [.int .i64 m.room, .slice a m.ts.length c, .map (some x21), .map (some r2), .slice none 0 0, .bool false, .int .i64 0]) S1_4 hs 0 rfl rfl rfl rfl (Nat.le_of_ble_eq_true rfl) rfl fun w25 hs => ?_)
          replace hs : Own w S w25 [blk b [.int .i64 m.room, .slice a m.ts.length c, .map (some x21), .map (some r2), .slice none 0 0, .bool false, .int .i64 0] 44, row (.slice a m.ts.length c) ((pts m.ts).map po) 52 1, mapR r1 sv Value.pointer m.nm, mapR r2 sv Value.pointer (doAll m.sf (m.ch.take kq)), row (.slice a2 m.ch.length c2) (m.ch.map chc) 57 3, star ((crT cuts m.ts i).map (thR 60 5)), mapR x21 sv Value.pointer (doAll m.sf (m.ch.take kq))] := hs
          refine RW_nil ?_
          refine W_seq ?_
          refine W_region ?_
          refine RW_op (L_assign (V := .int .i64 0) rfl ?_)
          refine RW_nil ?_
          refine W_ret ?_
          refine ⟨_, res_one (V := .int .i64 0) Try.results14 rfl, ?_⟩
          replace hs := hs.more (row (.slice none 0 0) (List.map chc []) 57 3) (row_nil _ _ _ _)
          have hie : i = m.ts.length := by omega
          rw [hie] at hs
          exact ⟨(), rfl, dk_shut' (hs.sel [0, 1, 6, 3, 7, 5] (by decide) rfl) (crT_len _ _ _).symm (pts_crT _ _ _).symm rfl, trivial⟩
end Tt
end Go.Proofs
namespace Go.Proofs
open Go Go.Vx Go.RowKit
namespace Tt
theorem kSyncG (w : World) (S : Nat → Prop) (b : Nat) (m : Dk) (N : Nat) (hk : DOk N m) (hN : N ≤ 1000) (hR : (dkR 44 60 5 52 57 b m).holds w S) (hlt : ∀ x, S x → x < w.heap.size) (s : Str) : Calls Try.prog 12 #[.pointer (some ⟨b, 0, none⟩), sv s] w (fun e w' => ∃ x : Int × Dk, e = .returned (.int .i64 x.1) ∧ Own w S w' [dkR 44 60 5 52 57 b x.2] ∧ (DOk (N + 1) x.2 ∧ x.2.room = m.room)) := by
  cases h : mget s m.nm with
  | none => exact (kSyncN_ok w S b m hR hlt s h).mono fun e w' ⟨_, he, ho, _⟩ => ⟨(7, m), he, ho, hk.mono (Nat.le_succ _), rfl⟩
  | some v =>
    obtain ⟨i, t, hi, rfl⟩ := hk.thing h
    exact (kSyncS_ok w S b m hR hlt s i t hi h).mono fun e w' ⟨_, he, ho, _⟩ => ⟨(0, _), he, ho, hk.sync hi, rfl⟩
theorem kRemG (w : World) (S : Nat → Prop) (b : Nat) (m : Dk) (N : Nat) (hk : DOk N m) (hN : N ≤ 1000) (hR : (dkR 44 60 5 52 57 b m).holds w S) (hlt : ∀ x, S x → x < w.heap.size) (s : Str) : Calls Try.prog 10 #[.pointer (some ⟨b, 0, none⟩), sv s] w (fun e w' => ∃ x : Int × Dk, e = .returned (.int .i64 x.1) ∧ Own w S w' [dkR 44 60 5 52 57 b x.2] ∧ ((DOk (N + 1) x.2 ∧ x.2.room = m.room) ∧ mget s x.2.nm = none)) := by
  have hn := hk.nch
  cases h : mget s m.nm with
  | none => exact (kRemN_ok w S b m hR hlt s h).mono fun e w' ⟨_, he, ho, _⟩ => ⟨(7, m), he, ho, ⟨hk.mono (Nat.le_succ _), rfl⟩, h⟩
  | some v =>
    obtain ⟨i, t, hi, rfl⟩ := hk.thing h
    refine (kRemS_ok w S b m hR hlt (by omega) s t.p h).mono fun e w' ⟨_, he, ho, _⟩ => ⟨(0, _), he, ho, ⟨hk.rem s, rfl⟩, ?_⟩
    show mget s (doC m.nm ⟨s, [], none⟩) = none
    unfold doC
    simp only [if_true]
    exact d_mget_none.2 (d_mdel_not hk.now.keys)
theorem kRenG (w : World) (S : Nat → Prop) (b : Nat) (m : Dk) (N : Nat) (hk : DOk N m) (hN : N ≤ 1000) (hR : (dkR 44 60 5 52 57 b m).holds w S) (hlt : ∀ x, S x → x < w.heap.size) (s s2 : Str) : Calls Try.prog 18 #[.pointer (some ⟨b, 0, none⟩), sv s, sv s2] w (fun e w' => ∃ x : Int × Dk, e = .returned (.int .i64 x.1) ∧ Own w S w' [dkR 44 60 5 52 57 b x.2] ∧ (DOk (N + 1) x.2 ∧ x.2.room = m.room)) := by
  have hn := hk.nch
  cases h : mget s m.nm with
  | none => exact (kRenN_ok w S b m hR hlt s s2 h).mono fun e w' ⟨_, he, ho, _⟩ => ⟨(7, m), he, ho, hk.mono (Nat.le_succ _), rfl⟩
  | some v =>
    obtain ⟨i, t, hi, rfl⟩ := hk.thing h
    refine (kRenS_ok w S b m hR hlt (by omega) s s2 t.p h).mono fun e w' ⟨x, he, ho, hF⟩ => ⟨x, he, ho, ?_⟩
    rcases hF with ⟨_, h2, _⟩ | ⟨_, h2, _⟩ | ⟨_, h2, h3, _⟩ <;> rw [h2]
    · exact ⟨hk.mono (Nat.le_succ _), rfl⟩
    · exact ⟨hk.mono (Nat.le_succ _), rfl⟩
    · exact ⟨hk.ren h h3, rfl⟩
theorem kSyncDirG (w : World) (S : Nat → Prop) (b : Nat) (m : Dk) (N : Nat) (hk : DOk N m) (hN : N ≤ 1000) (hR : (dkR 44 60 5 52 57 b m).holds w S) (hlt : ∀ x, S x → x < w.heap.size) (hcl : CloneC Try.prog 24) : Calls Try.prog 13 #[.pointer (some ⟨b, 0, none⟩)] w (fun e w' => ∃ x : Int × Dk, e = .returned (.int .i64 x.1) ∧ Own w S w' [dkR 44 60 5 52 57 b x.2] ∧ (DOk (N + 1) x.2 ∧ x.2.room = m.room)) :=
  (kSyncDir_ok w S b m hR hlt hcl).mono fun e w' ⟨_, he, ho, _⟩ => ⟨(0, _), he, ho, hk.syncDir, rfl⟩
theorem kAppG (w : World) (S : Nat → Prop) (b : Nat) (m : Dk) (N : Nat) (hk : DOk N m) (hN : N ≤ 1000) (hR : (dkR 44 60 5 52 57 b m).holds w S) (hlt : ∀ x, S x → x < w.heap.size) (s : Str) (ba : Option Addr) (bc : Nat) (bs : List Int) (hrb : RdX w (.slice ba bs.length bc) 1 (bs.map (ic .u8))) (hSb : bs ≠ [] → ¬ S (bkS (.slice ba bs.length bc))) (hbn : bs.length ≤ 1000) : Calls Try.prog 11 #[.pointer (some ⟨b, 0, none⟩), sv s, .slice ba bs.length bc] w (fun e w' => ∃ x : Int × Dk, e = .returned (.int .i64 x.1) ∧ Own w S w' [dkR 44 60 5 52 57 b x.2] ∧ (DOk (N + 1) x.2 ∧ x.2.room = m.room)) := by
  have hn := hk.nch
  have ht := hk.nts
  have hu := hk.used (dk_nodup hR hlt)
  cases h : mget s m.nm with
  | none =>
    refine (kAppN_ok w S b m hR hlt (by omega) (by omega) hk.now.names (by omega) s ba bc bs hrb hSb (by omega) h).mono fun e w' ⟨x, he, ho, hF⟩ => ⟨x, he, ho, ?_⟩
    rcases hF with ⟨_, h2, _⟩ | ⟨_, h2, _⟩ | ⟨_, hm, p, h3, h2⟩ <;> rw [h2]
    · exact ⟨hk.mono (Nat.le_succ _), rfl⟩
    · exact ⟨hk.mono (Nat.le_succ _), rfl⟩
    · unfold mayB at hm
      simp at hm
      exact ⟨hk.newT hm.1 h3 hbn, rfl⟩
  | some v =>
    obtain ⟨i, t, hi, rfl⟩ := hk.thing h
    have hl := hk.len (List.mem_of_getElem? hi)
    refine (kAppS_ok w S b m hR hlt (by omega) (by omega) hk.now.names (by omega) s ba bc bs hrb hSb (by omega) i t hi h (by omega)).mono fun e w' ⟨x, he, ho, hF⟩ => ⟨x, he, ho, ?_⟩
    rcases hF with ⟨_, h2, _⟩ | ⟨_, h2, _⟩ | ⟨_, h2⟩ <;> rw [h2]
    · exact ⟨hk.mono (Nat.le_succ _), rfl⟩
    · exact ⟨hk.mono (Nat.le_succ _), rfl⟩
    · exact ⟨hk.app hi hbn, rfl⟩
theorem kCrashG (w : World) (S : Nat → Prop) (b : Nat) (m : Dk) (N : Nat) (hk : DOk N m) (hN : N ≤ 1000) (hR : (dkR 44 60 5 52 57 b m).holds w S) (hlt : ∀ x, S x → x < w.heap.size) (hcl : CloneC Try.prog 24) (y : Int) (hy0 : 0 ≤ y) (hy1 : y < 256) (ca : Option Addr) (cc : Nat) (cuts : List Int) (hcu : ∀ x ∈ cuts, 0 ≤ x ∧ x < 256) (hrc : RdX w (.slice ca cuts.length cc) 1 (cuts.map (ic .u8))) (hSc : cuts ≠ [] → ¬ S (bkS (.slice ca cuts.length cc))) (hcn : cuts.length ≤ 50) : Calls Try.prog 14 #[.pointer (some ⟨b, 0, none⟩), .int .u8 y, .slice ca cuts.length cc] w (fun e w' => ∃ x : Nat, e = .returned (.int .i64 0) ∧ Own w S w' [dkR 44 60 5 52 57 b (crD m x cuts)] ∧ (x ≤ m.ch.length)) := by
  have hn := hk.nch
  have ht := hk.nts
  have hkl : y.toNat % (m.ch.length + 1) < m.ch.length + 1 := Nat.mod_lt _ (by omega)
  exact (kCrash_ok w S b m hR hlt hcl y hy0 hy1 (y.toNat % (m.ch.length + 1)) (tmodZ hy0) (by omega) (by omega) (by omega) hk.chs (fun t ht => ⟨hk.safe t ht, by have := hk.len ht; omega⟩) ca cc cuts hcu hrc hSc (by omega)).mono
    fun e w' ⟨_, he, ho, _⟩ => ⟨y.toNat % (m.ch.length + 1), he, ho, by omega⟩
end Tt
end Go.Proofs
namespace Go.Proofs
open Go Go.Vx Go.RowKit
namespace Tt
set_option maxRecDepth 20000 in
set_option maxHeartbeats 4000000 in
theorem kDo_ok (w : World) (S : Nat → Prop) (b : Nat) (m : Dk) (N : Nat) (hk : DOk N m) (hN : N ≤ 1000) (hR : (dkR 44 60 5 52 57 b m).holds w S) (hlt : ∀ x, S x → x < w.heap.size) (hcl : CloneC Try.prog 24) (a0 : Dact) (hx : ActOk w a0) (hfw : fewA a0 = true) (h8 : ¬ a0.kind.tmod 9 = 8) (hSb : a0.bs ≠ [] → ¬ S (bkS (.slice a0.ba a0.bs.length a0.bc))) (hSc : a0.cuts ≠ [] → ¬ S (bkS (.slice a0.ca a0.cuts.length a0.cc))) : Calls Try.prog 9 #[.pointer (some ⟨b, 0, none⟩), .agg (acc a0).toArray] w (fun e w' => ∃ x : Int × Dk, e = .returned (.int .i64 x.1) ∧ Own w S w' [dkR 44 60 5 52 57 b x.2] ∧ (DOk (N + 1) x.2 ∧ x.2.room = m.room)) := by
  refine calls_of_Wn (n := 60) Try.func9 rfl Try.ntmps9 rfl ?_
  have hs := Own.lent hR hlt
  have hfw2 := fewA_of hfw
  refine W_seq ?_
  refine W_region ?_
  refine RW_op (L_box (V := .agg (acc a0).toArray) (cs := acc a0) rfl rfl hs fun b1 w2 hs => ?_)
  refine RW_op (L_assign (V := .int .i64 0) rfl ?_)
  refine RW_nil ?_
  refine W_seq ?_
  refine W_seq ?_
  refine W_region ?_
  refine RW_op (L_fieldAddr FA_26_0 rfl ?_)
  refine RW_op (L_ld (V := .int .u8 a0.kind) S1_5 hs 1 rfl rfl rfl ?_)
  refine RW_op (L_rem rfl rfl (by omega) rfl ?_)
  refine RW_nil ?_
  refine W_block ?_
  refine W_seq ?_
  refine W_region ?_
  refine RW_op (L_eql rfl rfl ?_)
  refine RW_op (L_assign (V := .bool (decide (a0.kind.tmod 9 = 2))) rfl ?_)
  refine RW_nil ?_
  refine W_cond (t := decide (a0.kind.tmod 9 = 2)) rfl (fun c3 => ?_) (fun c3 => ?_)
  ·
    replace c3 := of_decide_eq_true c3
    refine W_seq ?_
    refine W_region ?_
    refine RW_op (L_move (V := .pointer (some ⟨b, 0, none⟩)) rfl ?_)
    refine RW_op (L_fieldAddr FA_26_1 rfl ?_)
    refine RW_op (L_ld (V := sv a0.nm) S1_9 hs 1 rfl rfl rfl ?_)
    refine RW_op (L_callB2 (α := Int × Dk) (vs := [.pointer (some ⟨b, 0, none⟩), sv a0.nm]) (V := fun x => .int .i64 x.1) (R := dkR 44 60 5 52 57 b m) (R' := fun x => dkR 44 60 5 52 57 b x.2) (Lo := fun _ => []) (F := fun x _ => DOk (N + 1) x.2 ∧ x.2.room = m.room) EN_12 rfl rfl hs 0 rfl (fun S0 h0 l0 m0 => kSyncG _ S0 b m N hk (by omega) h0 l0 a0.nm) fun x4 w5 hs hF6 => ?_)
    refine RW_op (L_assign (V := .int .i64 x4.1) rfl ?_)
    refine RW_nil ?_
    refine W_ret ?_
    refine ⟨_, res_one (V := .int .i64 x4.1) Try.results9 rfl, ?_⟩
    exact ⟨x4, rfl, hs.only 0 rfl, hF6⟩
  ·
    replace c3 := of_decide_eq_false c3
    refine W_seq ?_
    refine W_region ?_
    refine RW_op (L_eql rfl rfl ?_)
    refine RW_op (L_assign (V := .bool (decide (a0.kind.tmod 9 = 3))) rfl ?_)
    refine RW_nil ?_
    refine W_cond (t := decide (a0.kind.tmod 9 = 3)) rfl (fun c7 => ?_) (fun c7 => ?_)
    ·
      replace c7 := of_decide_eq_true c7
      refine W_seq ?_
      refine W_region ?_
      refine RW_op (L_move (V := .pointer (some ⟨b, 0, none⟩)) rfl ?_)
      refine RW_op (L_fieldAddr FA_26_1 rfl ?_)
      refine RW_op (L_ld (V := sv a0.nm) S1_9 hs 1 rfl rfl rfl ?_)
      refine RW_op (L_fieldAddr FA_26_2 rfl ?_)
      refine RW_op (L_ld (V := sv a0.ot) S1_9 hs 1 rfl rfl rfl ?_)
      refine RW_op (L_callB2 (α := Int × Dk) (vs := [.pointer (some ⟨b, 0, none⟩), sv a0.nm, sv a0.ot]) (V := fun x => .int .i64 x.1) (R := dkR 44 60 5 52 57 b m) (R' := fun x => dkR 44 60 5 52 57 b x.2) (Lo := fun _ => []) (F := fun x _ => DOk (N + 1) x.2 ∧ x.2.room = m.room) EN_18 rfl rfl hs 0 rfl (fun S0 h0 l0 m0 => kRenG _ S0 b m N hk (by omega) h0 l0 a0.nm a0.ot) fun x8 w9 hs hF10 => ?_)
      refine RW_op (L_assign (V := .int .i64 x8.1) rfl ?_)
      refine RW_nil ?_
      refine W_ret ?_
      refine ⟨_, res_one (V := .int .i64 x8.1) Try.results9 rfl, ?_⟩
      exact ⟨x8, rfl, hs.only 0 rfl, hF10⟩
    ·
      replace c7 := of_decide_eq_false c7
      refine W_seq ?_
      refine W_region ?_
      refine RW_op (L_eql rfl rfl ?_)
      refine RW_op (L_assign (V := .bool (decide (a0.kind.tmod 9 = 4))) rfl ?_)
      refine RW_nil ?_
      refine W_cond (t := decide (a0.kind.tmod 9 = 4)) rfl (fun c11 => ?_) (fun c11 => ?_)
      ·
        replace c11 := of_decide_eq_true c11
        refine W_seq ?_
        refine W_region ?_
        refine RW_op (L_move (V := .pointer (some ⟨b, 0, none⟩)) rfl ?_)
        refine RW_op (L_fieldAddr FA_26_1 rfl ?_)
        refine RW_op (L_ld (V := sv a0.nm) S1_9 hs 1 rfl rfl rfl ?_)
        refine RW_op (L_callB2 (α := Int × Dk) (vs := [.pointer (some ⟨b, 0, none⟩), sv a0.nm]) (V := fun x => .int .i64 x.1) (R := dkR 44 60 5 52 57 b m) (R' := fun x => dkR 44 60 5 52 57 b x.2) (Lo := fun _ => []) (F := fun x _ => (DOk (N + 1) x.2 ∧ x.2.room = m.room) ∧ mget a0.nm x.2.nm = none) EN_10 rfl rfl hs 0 rfl (fun S0 h0 l0 m0 => kRemG _ S0 b m N hk (by omega) h0 l0 a0.nm) fun x12 w13 hs hF14 => ?_)
        refine RW_op (L_assign (V := .int .i64 x12.1) rfl ?_)
        refine RW_nil ?_
        refine W_ret ?_
        refine ⟨_, res_one (V := .int .i64 x12.1) Try.results9 rfl, ?_⟩
        exact ⟨x12, rfl, hs.only 0 rfl, hF14.1⟩
      ·
        replace c11 := of_decide_eq_false c11
        refine W_seq ?_
        refine W_region ?_
        refine RW_op (L_eql rfl rfl ?_)
        refine RW_op (L_assign (V := .bool (decide (a0.kind.tmod 9 = 5))) rfl ?_)
        refine RW_nil ?_
        refine W_cond (t := decide (a0.kind.tmod 9 = 5)) rfl (fun c15 => ?_) (fun c15 => ?_)
        ·
          replace c15 := of_decide_eq_true c15
          refine W_seq ?_
          refine W_region ?_
          refine RW_op (L_move (V := .pointer (some ⟨b, 0, none⟩)) rfl ?_)
          refine RW_op (L_callB2 (α := Int × Dk) (vs := [.pointer (some ⟨b, 0, none⟩)]) (V := fun x => .int .i64 x.1) (R := dkR 44 60 5 52 57 b m) (R' := fun x => dkR 44 60 5 52 57 b x.2) (Lo := fun _ => []) (F := fun x _ => DOk (N + 1) x.2 ∧ x.2.room = m.room) EN_13 rfl rfl hs 0 rfl (fun S0 h0 l0 m0 => kSyncDirG _ S0 b m N hk (by omega) h0 l0 hcl) fun x16 w17 hs hF18 => ?_)
          refine RW_op (L_assign (V := .int .i64 x16.1) rfl ?_)
          refine RW_nil ?_
          refine W_ret ?_
          refine ⟨_, res_one (V := .int .i64 x16.1) Try.results9 rfl, ?_⟩
          exact ⟨x16, rfl, hs.only 0 rfl, hF18⟩
        ·
          replace c15 := of_decide_eq_false c15
          refine W_seq ?_
          refine W_region ?_
          refine RW_op (L_eql rfl rfl ?_)
          refine RW_op (L_assign (V := .bool (decide (a0.kind.tmod 9 = 6))) rfl ?_)
          refine RW_nil ?_
          refine W_cond (t := decide (a0.kind.tmod 9 = 6)) rfl (fun c19 => ?_) (fun c19 => ?_)
          ·
            replace c19 := of_decide_eq_true c19
            refine W_seq ?_
            refine W_region ?_
            refine RW_op (L_move (V := .pointer (some ⟨b, 0, none⟩)) rfl ?_)
            refine RW_op (L_fieldAddr FA_26_4 rfl ?_)
            refine RW_op (L_ld (V := .int .u8 a0.chg) S1_5 hs 1 rfl rfl rfl ?_)
            refine RW_op (L_fieldAddr FA_26_5 rfl ?_)
            refine RW_op (L_ld (V := .slice a0.ca a0.cuts.length a0.cc) S1_23 hs 1 rfl rfl rfl ?_)
            refine RW_op (L_callB2 (α := Nat) (vs := [.pointer (some ⟨b, 0, none⟩), .int .u8 a0.chg, .slice a0.ca a0.cuts.length a0.cc]) (V := fun x => .int .i64 0) (R := dkR 44 60 5 52 57 b m) (R' := fun x => dkR 44 60 5 52 57 b (crD m x a0.cuts)) (Lo := fun _ => []) (F := fun x _ => x ≤ m.ch.length) EN_14 rfl rfl hs 0 rfl (fun S0 h0 l0 m0 => kCrashG _ S0 b m N hk (by omega) h0 l0 hcl a0.chg hx.chg.1 hx.chg.2 a0.ca a0.cc a0.cuts hx.cuts (ActOk.ownS hx hs hSb hSc).rc (act_out' hx hSb hSc m0).2 hfw2.2.2.2) fun x20 w21 hs hF22 => ?_)
            refine RW_op (L_assign (V := .int .i64 0) rfl ?_)
            refine RW_nil ?_
            refine W_ret ?_
            refine ⟨_, res_one (V := .int .i64 0) Try.results9 rfl, ?_⟩
            exact ⟨(0, crD m x20 a0.cuts), rfl, hs.only 0 rfl, hk.crash hF22 _, rfl⟩
          ·
            replace c19 := of_decide_eq_false c19
            refine W_seq ?_
            refine W_region ?_
            refine RW_op (L_eql rfl rfl ?_)
            refine RW_op (L_assign (V := .bool (decide (a0.kind.tmod 9 = 7))) rfl ?_)
            refine RW_nil ?_
            refine W_cond (t := decide (a0.kind.tmod 9 = 7)) rfl (fun c23 => ?_) (fun c23 => ?_)
            ·
              replace c23 := of_decide_eq_true c23
              refine W_seq ?_
              refine W_region ?_
              refine RW_op (L_move (V := .pointer (some ⟨b, 0, none⟩)) rfl ?_)
              refine RW_op (L_fieldAddr FA_26_2 rfl ?_)
              refine RW_op (L_ld (V := sv a0.ot) S1_9 hs 1 rfl rfl rfl ?_)
              refine RW_op (L_fieldAddr FA_26_3 rfl ?_)
              refine RW_op (L_ld (V := .slice a0.ba a0.bs.length a0.bc) S1_23 hs 1 rfl rfl rfl ?_)
              refine RW_op (L_callB2 (α := Int × Dk) (vs := [.pointer (some ⟨b, 0, none⟩), sv a0.ot, .slice a0.ba a0.bs.length a0.bc]) (V := fun x => .int .i64 x.1) (R := dkR 44 60 5 52 57 b m) (R' := fun x => dkR 44 60 5 52 57 b x.2) (Lo := fun _ => []) (F := fun x _ => DOk (N + 1) x.2 ∧ x.2.room = m.room) EN_11 rfl rfl hs 0 rfl (fun S0 h0 l0 m0 => kAppG _ S0 b m N hk (by omega) h0 l0 a0.ot a0.ba a0.bc a0.bs (ActOk.ownS hx hs hSb hSc).rb (act_out' hx hSb hSc m0).1 hfw2.2.2.1) fun x24 w25 hs hF26 => ?_)
              refine RW_op (L_assign (V := .int .i64 x24.1) rfl ?_)
              refine RW_nil ?_
              refine W_ret ?_
              refine ⟨_, res_one (V := .int .i64 x24.1) Try.results9 rfl, ?_⟩
              exact ⟨x24, rfl, hs.only 0 rfl, hF26⟩
            ·
              replace c23 := of_decide_eq_false c23
              refine W_seq ?_
              refine W_region ?_
              refine RW_op (L_eql rfl rfl ?_)
              refine RW_op (L_assign (V := .bool (decide (a0.kind.tmod 9 = 8))) rfl ?_)
              refine RW_nil ?_
              refine W_condF (congrArg Value.bool (decide_eq_false h8)) ?_
              refine W_skip ?_
              refine W_seq ?_
              refine W_region ?_
              refine RW_op (L_move (V := .pointer (some ⟨b, 0, none⟩)) rfl ?_)
              refine RW_op (L_fieldAddr FA_26_1 rfl ?_)
              refine RW_op (L_ld (V := sv a0.nm) S1_9 hs 1 rfl rfl rfl ?_)
              refine RW_op (L_fieldAddr FA_26_3 rfl ?_)
              refine RW_op (L_ld (V := .slice a0.ba a0.bs.length a0.bc) S1_23 hs 1 rfl rfl rfl ?_)
              refine RW_op (L_callB2 (α := Int × Dk) (vs := [.pointer (some ⟨b, 0, none⟩), sv a0.nm, .slice a0.ba a0.bs.length a0.bc]) (V := fun x => .int .i64 x.1) (R := dkR 44 60 5 52 57 b m) (R' := fun x => dkR 44 60 5 52 57 b x.2) (Lo := fun _ => []) (F := fun x _ => DOk (N + 1) x.2 ∧ x.2.room = m.room) EN_11 rfl rfl hs 0 rfl (fun S0 h0 l0 m0 => kAppG _ S0 b m N hk (by omega) h0 l0 a0.nm a0.ba a0.bc a0.bs (ActOk.ownS hx hs hSb hSc).rb (act_out' hx hSb hSc m0).1 hfw2.2.2.1) fun x27 w28 hs hF29 => ?_)
              refine RW_op (L_assign (V := .int .i64 x27.1) rfl ?_)
              refine RW_nil ?_
              refine W_ret ?_
              refine ⟨_, res_one (V := .int .i64 x27.1) Try.results9 rfl, ?_⟩
              exact ⟨x27, rfl, hs.only 0 rfl, hF29⟩
end Tt
end Go.Proofs
namespace Go.Proofs
open Go Go.Vx Go.RowKit
namespace Tt
set_option maxRecDepth 20000 in
set_option maxHeartbeats 4000000 in
theorem keys1S_ok (w : World) (S : Nat → Prop) (bx r l : Nat) (lm : List (Str × Pt)) (R : List Value → Res) (ok : List Value → Value → Prop) (hok : ∀ (pre : List Str) (k : Str), pre.length < lm.length → k ∈ lm.map (·.1) → ok (pre.map sv) (sv k)) (hy : YieldC Try.prog l R ok) (hR : (R []).holds w S) (hlt : ∀ x, S x → x < w.heap.size) (hSb : ¬ S bx) (hSr : ¬ S r) (hc : CellsF w bx [.map (some r)]) (hm : MapF w r sv Value.pointer lm) : Calls Try.prog 33 #[.func (.yield l) #[] #[], .pointer (some ⟨bx, 0, none⟩)] w (fun e w' => ∃ v xs, e = .returned v ∧ xs.Perm ((lm.map (·.1)).map sv) ∧ Own w S w' [R xs]) := by
  refine calls_of_Wn (n := 14) Try.func33 rfl Try.ntmps33 rfl ?_
  have hs := Own.lent hR hlt
  obtain ⟨es, clock, hm0, hE⟩ := hm
  refine W_seq ?_
  refine W_region ?_
  refine RW_op (L_ldF (V := .map (some r)) S1_41 (CellsF.own hc hs hSb) rfl rfl ?_)
  have hat := hs.at hm0 hSr
  refine RW_op (L_range UD_41 hat hs rfl fun it w1 hs => ?_)
  refine RW_nil ?_
  refine W_block ?_
  refine W_loopI (fun ρ μ ρ' w' => ∃ (ρo : Env) (pre : List Str) (seen : Array Nat), ρ' = mix [3, 6, 7, 8, 9, 10, 11, 12, 13] ρo ρ ∧ (((left es seen).map (·.key) ++ pre.map sv).Perm ((lm.map (·.1)).map sv)) ∧ μ = (left es seen).length ∧ Own w S w' [R (pre.map sv), iterR it r clock seen]) ?_ ?_
  · exact ⟨_, _, [], #[], mix_of (ds := [3, 6, 7, 8, 9, 10, 11, 12, 13]) (Agr.refl _ _), (by rw [left_none, hE.keys]; simp), rfl, hs⟩
  · rintro μ ρ' w2 ⟨ρo, pre, seen, rfl, hp, rfl, hs⟩
    refine W_seq ?_
    refine W_region ?_
    refine RW_op (L_next (seen := seen) (hs.at hm0 hSr) hE.old hs 1 rfl rfl (fun h0 => ?_) (fun e3 ha w4 hs => ?_))
    ·
      refine RW_op (L_extract (V := .bool false) rfl rfl ?_)
      refine RW_nil ?_
      refine W_seq ?_
      refine W_condF rfl ?_
      refine W_exit ?_
      refine ⟨_, res_none Try.results33, ?_⟩
      rw [h0] at hp
      exact ⟨_, pre.map sv, rfl, hp, hs.only 0 rfl⟩
    ·
      obtain ⟨k, hk, hkey⟩ := ents_key hE (left_mem ha)
      refine RW_op (L_extract (V := .bool true) rfl rfl ?_)
      refine RW_nil ?_
      refine W_seq ?_
      refine W_condT rfl ?_
      refine W_skip ?_
      refine W_block ?_
      refine W_seq ?_
      refine W_region ?_
      refine RW_op (L_entryK (V := sv k) (hs.at hm0 hSr) hE.inc (left_mem ha) hkey hs 1 rfl rfl ?_)
      refine RW_op (L_extract (V := sv k) rfl rfl ?_)
      refine RW_op (L_assign (V := sv k) rfl ?_)
      refine RW_nil ?_
      refine W_seq ?_
      refine W_region ?_
      refine RW_op (L_move (V := .func (.yield l) #[] #[]) rfl ?_)
      refine RW_op (L_move (V := sv k) rfl ?_)
      have hst := keys_step hE ha hkey hp
      refine RW_op (L_yieldC (R := R) (pre := pre.map sv) (v := sv k) hy rfl rfl (hok pre k hst.2.2 hk) hs 0 rfl fun w5 hs => ?_)
      refine RW_op (L_not rfl ?_)
      refine RW_nil ?_
      refine W_condF rfl ?_
      refine W_skip ?_
      have e1 : (pre ++ [k]).map sv = pre.map sv ++ [sv k] := by simp
      rw [← e1] at hs
      refine ⟨_, ?_, _, pre ++ [k], seen.push e3.born, mix_of (ds := [3, 6, 7, 8, 9, 10, 11, 12, 13]) (by repeat (first | exact Agr.refl _ _ | refine Agr.upd ?_ rfl | refine Agr.mix ?_ rfl)), hst.1, rfl, hs.take 2⟩
      exact hst.2.1
end Tt
end Go.Proofs
namespace Go.Proofs
open Go Go.Vx Go.RowKit
namespace Tt
set_option maxRecDepth 20000 in
set_option maxHeartbeats 4000000 in
theorem keysS_ok (w : World) (r : Nat) : Calls Try.prog 29 #[.map (some r)] w (fun e w' => ∃ x : Nat, e = .returned (.func (.func 33) #[] #[.pointer (some ⟨x, 0, none⟩)]) ∧ Own w no w' [blk x [.map (some r)] 41] ∧ True) := by
  refine calls_of_Wn (n := 4) Try.func29 rfl Try.ntmps29 rfl ?_
  have hs := Own.start w
  refine W_seq ?_
  refine W_region ?_
  refine RW_op (L_box (V := .map (some r)) (cs := [.map (some r)]) rfl rfl hs fun b1 w2 hs => ?_)
  refine RW_op (L_assign (V := .nilFunc) rfl ?_)
  refine RW_nil ?_
  refine W_seq ?_
  refine W_region ?_
  refine RW_op (L_makeFunc (cs := [.pointer (some ⟨b1, 0, none⟩)]) rfl rfl ?_)
  refine RW_op (L_assign (V := .func (.func 33) #[] #[.pointer (some ⟨b1, 0, none⟩)]) rfl ?_)
  refine RW_nil ?_
  refine W_ret ?_
  refine ⟨_, res_one (V := .func (.func 33) #[] #[.pointer (some ⟨b1, 0, none⟩)]) Try.results29 rfl, ?_⟩
  exact ⟨b1, rfl, hs.only 0 rfl, trivial⟩
theorem givesS {w : World} {bx r N : Nat} {lm : List (Str × Pt)} (hc : CellsF w bx [.map (some r)]) (hm : MapF w r sv Value.pointer lm) (hN : lm.length ≤ N) :
    Gives Try.prog 33 [.pointer (some ⟨bx, 0, none⟩)] (okS sv N) (fun xs => xs.Perm ((lm.map (·.1)).map sv)) w := by
  rintro l w1 R S ⟨L1, hs1⟩ hlt hS hR hy
  have hb : bx < w.heap.size := World.block_lt_of_cell? _ _ (hc 0 _ rfl)
  have hr : r < w.heap.size := by obtain ⟨es, clock, h, _⟩ := hm; exact (Array.getElem?_eq_some_iff.1 h).1
  exact keys1S_ok w1 S bx r l lm R (okS sv N) (fun pre k hp _ => ⟨⟨k, rfl⟩, by rw [List.length_map]; omega⟩) hy hR hlt (fun h => hS _ h hb) (fun h => hS _ h hr) (hc.own' hs1) (hm.own' hs1)
set_option maxRecDepth 20000 in
set_option maxHeartbeats 4000000 in
theorem apSeqS_ok (w : World) (f N : Nat) (caps : List Value) (hf : En Try.prog f) (hN : N * 17 ≤ 140737488355328) (G : List Value → Prop) (hcall : Gives Try.prog f caps (okS sv N) G w) : Calls Try.prog 34 #[.slice none 0 0, .func (.func f) #[] caps.toArray] w (fun e w' => ∃ x : List Str × Option Addr × Nat, e = .returned (.slice x.2.1 x.1.length x.2.2) ∧ Own w no w' [row (.slice x.2.1 x.1.length x.2.2) (x.1.map sc) 9 1] ∧ G (x.1.map sv) ∧ x.1.length ≤ N) := by
  refine calls_of_Wd (n := 13) Try.func34 rfl Try.ntmps34 rfl ?_
  have hs := Own.start w
  refine Wd_seqR ?_
  refine W_region ?_
  refine RW_op (L_box (V := .slice none 0 0) (cs := [.slice none 0 0]) rfl rfl hs fun b1 w2 hs => ?_)
  refine RW_op (L_assign (V := .slice none 0 0) rfl ?_)
  refine RW_nil ?_
  refine Wd_seqL ?_
  refine Wd_seqR ?_
  refine W_region ?_
  refine RW_op (L_move (V := .func (.func f) #[] caps.toArray) rfl ?_)
  refine RW_nil ?_
  refine Wd_block ?_
  replace hs := hs.more (row (.slice none 0 0) (List.map sc []) 9 1) (row_nil _ _ _ _)
  replace hs := hs.join 0 1 (by decide) rfl rfl
  replace hs := hs.conv 0 rfl (R' := accR N b1 46 9 1 sc sv []) (fun S h => ⟨⟨([], none, 0), rfl, Nat.zero_le _⟩, h⟩)
  refine Wd_rangeFunc (caps := caps) (ok := okS sv N) (G := G) rfl rfl hf hs 0 (accR N b1 46 9 1 sc sv) rfl ?_ hcall ?_
  · rintro l fn dd pre x w2 S ⟨⟨d, rfl⟩, hpN⟩ hs
    refine W_region ?_
    refine RW_op (L_assign (V := sv d) rfl ?_)
    refine RW_nil ?_
    refine ⟨[], hs, ?_⟩
    intro w3 hs
    obtain ⟨⟨⟨l0, a0, c0⟩, hx, hxN⟩, hs⟩ := hs.unpack 0 rfl
    replace hs := hs.split 0 rfl
    dsimp only at hx
    have hlen := congrArg List.length hx
    rw [List.length_map] at hlen
    refine W_block ?_
    refine W_region ?_
    refine RW_op (L_ld (V := .slice a0 l0.length c0) S1_46 hs 0 rfl rfl rfl ?_)
    refine RW_op (L_move (V := sv d) rfl ?_)
    refine RW_op (L_bs (vals := [sv d]) (ls := List.map sc ([d] : List Str)) EL_46 rfl rfl rfl (len_map (enc := sc) (fun _ => rfl) _) (one_map sc_one _) (Nat.le_of_ble_eq_true rfl) hs fun b3 w4 hs => ?_)
    refine RW_op (L_appN (ls' := (l0 ++ [d]).map sc) (n := (l0 ++ [d]).length) EL_46 hs 2 rfl rfl rfl (hs.rd 3 rfl) (one_map sc_one _) (by simp only [List.length_map, List.length_append, List.length_cons, List.length_nil]; omega) (by simp) (by simp) fun a5 c5 w6 hs => ?_)
    refine RW_op (L_st1 (V := .slice a5 ((l0 ++ [d]).length) c5) (cs' := [.slice a5 ((l0 ++ [d]).length) c5]) S1_46 hs 0 rfl rfl rfl rfl (Nat.le_of_ble_eq_true rfl) rfl fun w7 hs => ?_)
    refine RW_nil ?_
    replace hs := hs.join 0 2 (by decide) rfl rfl
    replace hs := hs.conv 0 rfl (R' := accR N b1 46 9 1 sc sv (pre ++ [sv d])) (fun S h => ⟨⟨(l0 ++ [d], a5, c5), by rw [List.map_append, hx]; rfl, by rw [List.length_append]; exact hpN⟩, h⟩)
    exact hs.take 2
  · rintro xs dd w3 hG hs
    obtain ⟨⟨⟨l1, a1, c1⟩, hx, hxN⟩, hs⟩ := hs.unpack 0 rfl
    dsimp only at hx
    subst hx
    replace hs := hs.split 0 rfl
    refine Wd_of ?_
    refine W_seq ?_
    refine W_region ?_
    refine RW_op (L_ld (V := .slice a1 l1.length c1) S1_46 hs 0 rfl rfl rfl ?_)
    refine RW_op (L_assign (V := .slice a1 l1.length c1) rfl ?_)
    refine RW_nil ?_
    refine W_ret ?_
    refine ends_mark (V := .slice a1 l1.length c1) hs 2 rfl (fun w => res_one (V := .slice a1 l1.length c1) Try.results34 rfl) fun w hs => ?_
    exact ⟨(l1, a1, c1), rfl, hs.only 3 rfl, hG, by simpa using hxN⟩
set_option maxRecDepth 20000 in
set_option maxHeartbeats 4000000 in
theorem collectS_ok (w : World) (f N : Nat) (caps : List Value) (hf : En Try.prog f) (hN : N * 17 ≤ 140737488355328) (G : List Value → Prop) (hcall : Gives Try.prog f caps (okS sv N) G w) : Calls Try.prog 31 #[.func (.func f) #[] caps.toArray] w (fun e w' => ∃ x : List Str × Option Addr × Nat, e = .returned (.slice x.2.1 x.1.length x.2.2) ∧ Own w no w' [row (.slice x.2.1 x.1.length x.2.2) (x.1.map sc) 9 1] ∧ G (x.1.map sv) ∧ x.1.length ≤ N) := by
  refine calls_of_Wn (n := 5) Try.func31 rfl Try.ntmps31 rfl ?_
  have hs := Own.start w
  refine W_seq ?_
  refine W_region ?_
  refine RW_op (L_assign (V := .slice none 0 0) rfl ?_)
  refine RW_nil ?_
  refine W_seq ?_
  refine W_region ?_
  refine RW_op (L_move (V := .func (.func f) #[] caps.toArray) rfl ?_)
  refine RW_op (L_callX (vs := [.slice none 0 0, .func (.func f) #[] caps.toArray]) EN_34 rfl rfl (apSeqS_ok _ f N caps hf hN G hcall) hs fun x1 w2 hs hF3 => ?_)
  refine RW_op (L_assign (V := .slice x1.2.1 x1.1.length x1.2.2) rfl ?_)
  refine RW_nil ?_
  refine W_ret ?_
  refine ⟨_, res_one (V := .slice x1.2.1 x1.1.length x1.2.2) Try.results31 rfl, ?_⟩
  exact ⟨(x1.1, x1.2.1, x1.2.2), rfl, hs.only 0 rfl, hF3⟩
set_option maxRecDepth 20000 in
set_option maxHeartbeats 4000000 in
theorem sortedS_ok (w : World) (f N : Nat) (caps : List Value) (hf : En Try.prog f) (hN : N * 17 ≤ 140737488355328) (G : List Value → Prop) (hcall : Gives Try.prog f caps (okS sv N) G w) (hso : SortP Try.prog 32 9) : Calls Try.prog 28 #[.func (.func f) #[] caps.toArray] w (fun e w' => ∃ x : List Str × Option Addr × Nat, e = .returned (.slice x.2.1 x.1.length x.2.2) ∧ Own w no w' [row (.slice x.2.1 x.1.length x.2.2) (x.1.map sc) 9 1] ∧ ∃ m, G (m.map sv) ∧ x.1.Perm m) := by
  refine calls_of_Wn (n := 9) Try.func28 rfl Try.ntmps28 rfl ?_
  have hs := Own.start w
  refine W_seq ?_
  refine W_region ?_
  refine RW_op (L_assign (V := .slice none 0 0) rfl ?_)
  refine RW_nil ?_
  refine W_seq ?_
  refine W_region ?_
  refine RW_op (L_move (V := .func (.func f) #[] caps.toArray) rfl ?_)
  refine RW_op (L_callX (vs := [.func (.func f) #[] caps.toArray]) EN_31 rfl rfl (collectS_ok _ f N caps hf hN G hcall) hs fun x1 w2 hs hF3 => ?_)
  refine RW_op (L_assign (V := .slice x1.2.1 x1.1.length x1.2.2) rfl ?_)
  refine RW_nil ?_
  refine W_seq ?_
  have hn := hF3.2
  refine W_region ?_
  refine RW_op (L_move (V := .slice x1.2.1 x1.1.length x1.2.2) rfl ?_)
  refine RW_op (L_callB (α := { m : List Str // m.Perm x1.1 }) (vs := [.slice x1.2.1 x1.1.length x1.2.2]) (V := fun _ => .tuple #[]) (R := row (.slice x1.2.1 x1.1.length x1.2.2) (x1.1.map sc) 9 1) (R' := fun x => row (.slice x1.2.1 x1.1.length x1.2.2) (x.1.map sc) 9 1) (Lo := fun _ => []) (F := fun _ _ => True) EN_32 rfl rfl hs 0 rfl (fun S hS hlt => hso _ S _ _ _ hS hlt (by omega)) fun x4 w5 hs _ => ?_)
  replace hs : Own w no w5 _ := hs
  refine RW_nil ?_
  refine W_seq ?_
  refine W_region ?_
  refine RW_op (L_move (V := .slice x1.2.1 x1.1.length x1.2.2) rfl ?_)
  refine RW_op (L_assign (V := .slice x1.2.1 x1.1.length x1.2.2) rfl ?_)
  refine RW_nil ?_
  refine W_ret ?_
  refine ⟨_, res_one (V := .slice x1.2.1 x1.1.length x1.2.2) Try.results28 rfl, ?_⟩
  have hl : x1.1.length = x4.1.length := (x4.2.length_eq).symm
  refine ⟨(x4.1, x1.2.1, x1.2.2), by rw [hl], ?_, x1.1, hF3.1, x4.2⟩
  have ho := hs.only 0 rfl
  rw [hl] at ho
  exact ho
theorem perm_sv {a b : List Str} (h : (a.map sv).Perm (b.map sv)) : a.Perm b := by
  have h2 := h.map (fun v : Value => match v with | .string s => s.data.toList | _ => [])
  simpa [List.map_map, Function.comp_def] using h2
set_option maxRecDepth 20000 in
set_option maxHeartbeats 4000000 in
theorem kList_ok (w : World) (b : Nat) {room : Int} {a : Option Addr} {n c r1 r2 : Nat} {a2 : Option Addr} {n2 c2 : Nat} (hc : CellsF w b (dcl room a n c r1 r2 a2 n2 c2)) {nm : List (Str × Pt)} (hm : MapF w r1 sv Value.pointer nm) (hN : nm.length ≤ 1000000) (hso : SortP Try.prog 32 9) : Calls Try.prog 16 #[.pointer (some ⟨b, 0, none⟩)] w (fun e w' => ∃ x : List Str × Option Addr × Nat, e = .returned (.slice x.2.1 x.1.length x.2.2) ∧ Own w no w' [row (.slice x.2.1 x.1.length x.2.2) (x.1.map sc) 9 1] ∧ x.1.Perm (nm.map (·.1))) := by
  refine calls_of_Wn (n := 12) Try.func16 rfl Try.ntmps16 rfl ?_
  have hs := Own.start w
  refine W_seq ?_
  refine W_region ?_
  refine RW_op (L_assign (V := .slice none 0 0) rfl ?_)
  refine RW_nil ?_
  refine W_seq ?_
  refine W_seq ?_
  refine W_region ?_
  refine RW_op (L_move (V := .pointer (some ⟨b, 0, none⟩)) rfl ?_)
  refine RW_op (L_callP (vs := [.pointer (some ⟨b, 0, none⟩)]) (V := .bool true) EN_25 rfl rfl ?hc hs fun w1 hs => ?_)
  case hc => exact (kGood_ok _ b (hc.own' hs) )
  refine RW_op (L_not rfl ?_)
  refine RW_nil ?_
  refine W_condF rfl ?_
  refine W_skip ?_
  refine W_seq ?_
  refine W_region ?_
  refine RW_op (L_move (V := .pointer (some ⟨b, 0, none⟩)) rfl ?_)
  refine RW_op (L_nilCheck rfl ?_)
  refine RW_op (L_fieldAddr FA_44_2 rfl ?_)
  refine RW_op (L_ldF (V := .map (some r1)) S1_41 (hc.own' hs) rfl rfl ?_)
  refine RW_op (L_callX (vs := [.map (some r1)]) (V := fun x : Nat => .func (.func 33) #[] #[.pointer (some ⟨x, 0, none⟩)]) EN_29 rfl rfl (keysS_ok _ r1) hs fun x2 w3 hs _ => ?_)
  refine RW_op (L_callX (vs := [.func (.func 33) #[] #[.pointer (some ⟨x2, 0, none⟩)]]) EN_28 rfl rfl (sortedS_ok _ 33 1000000 [.pointer (some ⟨x2, 0, none⟩)] EN_33 (by decide) (fun xs => xs.Perm ((nm.map (·.1)).map sv)) (givesS (hs.cellsf 0 rfl) (MapF.own hm hs (fun h => h)) (by omega)) hso) hs fun x4 w5 hs hF6 => ?_)
  refine RW_op (L_assign (V := .slice x4.2.1 x4.1.length x4.2.2) rfl ?_)
  refine RW_nil ?_
  refine W_ret ?_
  refine ⟨_, res_one (V := .slice x4.2.1 x4.1.length x4.2.2) Try.results16 rfl, ?_⟩
  obtain ⟨m0, hm1, hm2⟩ := hF6
  have hpp : x4.1.Perm (nm.map (·.1)) := hm2.trans (perm_sv hm1)
  exact ⟨(x4.1, x4.2.1, x4.2.2), rfl, hs.only 1 rfl, hpp⟩
end Tt
end Go.Proofs
namespace Go.Proofs
open Go Go.Vx Go.RowKit
namespace Tt
theorem kReadDN (w : World) (b : Nat) (m : Dk) (hD : DkF w b m) (s : Str) (hf : mget s m.nm = none) : Calls Try.prog 15 #[.pointer (some ⟨b, 0, none⟩), sv s] w (fun e w' => e = .returned (.tuple #[.slice none 0 0, .int .i64 7]) ∧ Own w no w' []) := by
  obtain ⟨a, c, r1, r2, a2, c2, hc, hm, ht, hn⟩ := hD
  exact kReadN_ok w b hc s hm hf
theorem kReadDS (w : World) (b : Nat) (m : Dk) (hD : DkF w b m) (s : Str) (p : Nat) (bs : List Int) (sf : Nat) (hf : mget s m.nm = some (pt p)) (hi : ∃ i : Nat, m.ts[i]? = some ⟨p, bs, sf⟩) (hN : bs.length * 2 ≤ 140737488355328) :
    Calls Try.prog 15 #[.pointer (some ⟨b, 0, none⟩), sv s] w (fun e w' => ∃ x : Option Addr × Nat, e = .returned (.tuple #[.slice x.1 bs.length x.2, .int .i64 0]) ∧ Own w no w' [row (.slice x.1 bs.length x.2) (bs.map (ic .u8)) 5 1] ∧ True) := by
  obtain ⟨a, c, r1, r2, a2, c2, hc, hm, ht, hn⟩ := hD
  obtain ⟨i, hi⟩ := hi
  obtain ⟨ta, tc, hct, hrt⟩ := ht _ (List.mem_of_getElem? hi)
  exact kReadS_ok w b hc s hm ⟨p, bs, sf⟩ hf hN ta tc hct hrt
theorem kListD (w : World) (b : Nat) (m : Dk) (hD : DkF w b m) (hN : m.nm.length ≤ 1000000) (hso : SortP Try.prog 32 9) : Calls Try.prog 16 #[.pointer (some ⟨b, 0, none⟩)] w (fun e w' => ∃ x : List Str × Option Addr × Nat, e = .returned (.slice x.2.1 x.1.length x.2.2) ∧ Own w no w' [row (.slice x.2.1 x.1.length x.2.2) (x.1.map sc) 9 1] ∧ x.1.Perm (m.nm.map (·.1))) := by
  obtain ⟨a, c, r1, r2, a2, c2, hc, hm, ht, hn⟩ := hD
  exact kList_ok w b hc hm hN hso
theorem kUsedD (w : World) (b : Nat) (m : Dk) (hD : DkF w b m) (hv : Names m.ts m.nm) (hb : usedL m.ts m.nm ≤ 4611686018427387904) : Calls Try.prog 17 #[.pointer (some ⟨b, 0, none⟩)] w (fun e w' => e = .returned (.int .i64 ((usedL m.ts m.nm : Nat) : Int)) ∧ Own w no w' []) := by
  obtain ⟨a, c, r1, r2, a2, c2, hc, hm, ht, hn⟩ := hD
  exact kUsed_ok w b hc hm m.ts ht hv hn hb
theorem alA1 (w : World) (S : Nat → Prop) (b : Nat) (hR : (dkR 44 60 5 52 57 b al0).holds w S) (hlt : ∀ x, S x → x < w.heap.size) (ba : Option Addr) (bc : Nat) (hrb : RdX w (.slice ba 2 bc) 1 (([120, 121] : List Int).map (ic .u8))) (hSb : ¬ S (bkS (.slice ba 2 bc))) : Calls Try.prog 11 #[.pointer (some ⟨b, 0, none⟩), sv [97], .slice ba 2 bc] w (fun e w' => ∃ x : Nat, e = .returned (.int .i64 0) ∧ Own w S w' [dkR 44 60 5 52 57 b (al1 x)] ∧ True) := by
  refine (kAppN_ok w S b al0 hR hlt (by decide) (by decide) (by intro x hx; cases hx) (by decide) [97] ba bc [120, 121] hrb (fun _ => hSb) (by decide) rfl).mono fun e w' ⟨x, he, ho, hF⟩ => ?_
  rcases hF with ⟨_, _, h3⟩ | ⟨_, _, h3⟩ | ⟨h1, _, q, _, h2⟩
  · exact absurd h3 (by decide)
  · exact absurd h3 (by decide)
  · rw [h1] at he; rw [h2] at ho; exact ⟨q, he, ho, trivial⟩
theorem alA2 (w : World) (S : Nat → Prop) (b : Nat) (p : Nat) (hR : (dkR 44 60 5 52 57 b (al1 p)).holds w S) (hlt : ∀ x, S x → x < w.heap.size) : Calls Try.prog 12 #[.pointer (some ⟨b, 0, none⟩), sv [97]] w (fun e w' => ∃ x : Unit, e = .returned (.int .i64 0) ∧ Own w S w' [dkR 44 60 5 52 57 b (al2 p)] ∧ True) :=
  (kSyncS_ok w S b (al1 p) hR hlt [97] 0 ⟨p, [120, 121], 0⟩ rfl rfl).mono fun e w' ⟨x, he, ho, _⟩ => ⟨x, he, ho, trivial⟩
theorem alA3 (w : World) (S : Nat → Prop) (b : Nat) (p : Nat) (hR : (dkR 44 60 5 52 57 b (al2 p)).holds w S) (hlt : ∀ x, S x → x < w.heap.size) (hcl : CloneC Try.prog 24) : Calls Try.prog 13 #[.pointer (some ⟨b, 0, none⟩)] w (fun e w' => ∃ x : Unit, e = .returned (.int .i64 0) ∧ Own w S w' [dkR 44 60 5 52 57 b (al3 p)] ∧ True) :=
  (kSyncDir_ok w S b (al2 p) hR hlt hcl).mono fun e w' ⟨x, he, ho, _⟩ => ⟨x, he, ho, trivial⟩
theorem alA4 (w : World) (S : Nat → Prop) (b : Nat) (p : Nat) (hR : (dkR 44 60 5 52 57 b (al3 p)).holds w S) (hlt : ∀ x, S x → x < w.heap.size) (ba : Option Addr) (bc : Nat) (hrb : RdX w (.slice ba 1 bc) 1 (([122] : List Int).map (ic .u8))) (hSb : ¬ S (bkS (.slice ba 1 bc))) : Calls Try.prog 11 #[.pointer (some ⟨b, 0, none⟩), sv [97], .slice ba 1 bc] w (fun e w' => ∃ x : Unit, e = .returned (.int .i64 0) ∧ Own w S w' [dkR 44 60 5 52 57 b (al4 p)] ∧ True) := by
  have hu : usedL (al3 p).ts (al3 p).nm = 2 := by simp [al3, usedL, lenAt]
  refine (kAppS_ok w S b (al3 p) hR hlt (by simp [al3]) (by simp [al3]) (by intro x hx; simp [al3] at hx; subst hx; exact ⟨⟨p, [120, 121], 2⟩, by simp [al3], rfl⟩) (by rw [hu]; decide) [97] ba bc [122] hrb (fun _ => hSb) (by decide) 0 ⟨p, [120, 121], 2⟩ rfl rfl (by simp)).mono fun e w' ⟨x, he, ho, hF⟩ => ?_
  rcases hF with ⟨_, _, h3⟩ | ⟨_, _, h3⟩ | ⟨h1, h2⟩
  · exact absurd h3 (by decide)
  · rw [hu] at h3; exact absurd h3 (by simp [al3])
  · rw [h1] at he; rw [h2] at ho; exact ⟨(), he, ho, trivial⟩
theorem alA5 (w : World) (S : Nat → Prop) (b : Nat) (p : Nat) (hR : (dkR 44 60 5 52 57 b (al4 p)).holds w S) (hlt : ∀ x, S x → x < w.heap.size) (ba : Option Addr) (bc : Nat) (hrb : RdX w (.slice ba 1 bc) 1 (([113] : List Int).map (ic .u8))) (hSb : ¬ S (bkS (.slice ba 1 bc))) : Calls Try.prog 11 #[.pointer (some ⟨b, 0, none⟩), sv [98], .slice ba 1 bc] w (fun e w' => ∃ x : Nat, e = .returned (.int .i64 0) ∧ Own w S w' [dkR 44 60 5 52 57 b (al5 p x)] ∧ p ≠ x) := by
  have hu : usedL (al4 p).ts (al4 p).nm = 3 := by simp [al4, usedL, lenAt]
  refine (kAppN_ok w S b (al4 p) hR hlt (by simp [al4]) (by simp [al4]) (by intro x hx; simp [al4] at hx; subst hx; exact ⟨⟨p, [120, 121, 122], 2⟩, by simp [al4], rfl⟩) (by rw [hu]; decide) [98] ba bc [113] hrb (fun _ => hSb) (by decide) rfl).mono fun e w' ⟨x, he, ho, hF⟩ => ?_
  rcases hF with ⟨_, _, h3⟩ | ⟨_, _, h3⟩ | ⟨h1, _, q, hq, h2⟩
  · exact absurd h3 (by decide)
  · rw [hu] at h3; exact absurd h3 (by simp [al4])
  · rw [h1] at he; rw [h2] at ho; exact ⟨q, he, ho, hq ⟨p, [120, 121, 122], 2⟩ (by simp [al4])⟩
theorem alU (w : World) (b p q : Nat) (hpq : p ≠ q) (hD : DkF w b (al5 p q)) : Calls Try.prog 17 #[.pointer (some ⟨b, 0, none⟩)] w (fun e w' => e = .returned (.int .i64 4) ∧ Own w no w' []) := by
  have := kUsedD w b _ hD (by intro x hx; simp [al5] at hx; exact hx.elim (fun h => by subst h; exact ⟨⟨p, [120, 121, 122], 2⟩, by simp [al5], rfl⟩) (fun h => by subst h; exact ⟨⟨q, [113], 0⟩, by simp [al5], rfl⟩)) (by rw [al_used hpq]; decide)
  rw [al_used hpq] at this
  exact this
theorem alA6 (w : World) (S : Nat → Prop) (b : Nat) (p q : Nat) (hR : (dkR 44 60 5 52 57 b (al5 p q)).holds w S) (hlt : ∀ x, S x → x < w.heap.size) (hcl : CloneC Try.prog 24) : Calls Try.prog 14 #[.pointer (some ⟨b, 0, none⟩), .int .u8 0, .slice none 0 0] w (fun e w' => ∃ x : Unit, e = .returned (.int .i64 0) ∧ Own w S w' [dkR 44 60 5 52 57 b (al6 p q)] ∧ True) :=
  (kCrash_ok w S b (al5 p q) hR hlt hcl 0 (by decide) (by decide) 0 rfl (Nat.zero_le _) (by simp [al5]) (by simp [al5]) (by intro k hk; simp [al5] at hk; subst hk; exact .inr ⟨q, rfl⟩) (by intro t ht; simp [al5] at ht; rcases ht with h | h <;> subst h <;> simp) none 0 [] (by simp) (.inl (Rd.nil w 1)) (fun h => absurd rfl h) (by decide)).mono fun e w' ⟨x, he, ho, _⟩ => ⟨x, he, ho, trivial⟩
end Tt
end Go.Proofs
namespace Go.Proofs
open Go Go.Vx Go.RowKit
namespace Tt
set_option maxRecDepth 20000 in
set_option maxHeartbeats 4000000 in
theorem alive11_ok (w : World) (hcl : CloneC Try.prog 24) (hso : SortP Try.prog 32 9) : Calls Try.prog 6 #[] w (fun e w' => e = .returned (.bool true) ∧ Own w no w' []) := by
  refine calls_of_Wn (n := 79) Try.func6 rfl Try.ntmps6 rfl ?_
  have hs := Own.start w
  refine W_seq ?_
  refine W_region ?_
  refine RW_op (L_assign (V := .bool false) rfl ?_)
  refine RW_nil ?_
  refine W_seq ?_
  refine W_region ?_
  refine RW_op (L_callX (vs := [.int .i64 100]) (V := fun x : Nat => .pointer (some ⟨x, 0, none⟩)) (Lo := fun x => [dkR 44 60 5 52 57 x (⟨100, [], [], [], []⟩ : Dk)]) (F := fun _ _ => True) EN_7 rfl rfl ?hc hs fun x1 w2 hs _ => ?_)
  case hc => exact (kNew_ok _ 100 (by decide) (by decide))
  refine RW_op (L_assign (V := .pointer (some ⟨x1, 0, none⟩)) rfl ?_)
  refine RW_nil ?_
  refine W_seq ?_
  refine W_seq ?_
  refine W_region ?_
  refine RW_op (L_move (V := .pointer (some ⟨x1, 0, none⟩)) rfl ?_)
  refine RW_op (L_ptrnil UD_28 rfl rfl ?_)
  refine RW_op (L_move (V := .bool false) rfl ?_)
  refine RW_gy rfl (L_move (V := .pointer (some ⟨x1, 0, none⟩)) rfl ?_)
  refine RW_gy rfl (L_bs (vals := [.int .u8 120, .int .u8 121]) (ls := List.map (ic .u8) ([120, 121] : List Int)) EL_23 rfl rfl rfl (len_map (enc := (ic .u8)) (fun _ => rfl) _) (one_map (ic_one .u8) _) (Nat.le_of_ble_eq_true rfl) hs fun b3 w4 hs => ?_)
  refine RW_gy rfl (L_convSl (l := [120, 121]) rfl UDR_23 UDR_5 hs 1 rfl rfl rfl fun w5 hs => ?_)
  refine RW_gy rfl (L_callF (α := Nat) (vs := [.pointer (some ⟨x1, 0, none⟩), sv [97], .slice (some ⟨b3, 0, none⟩) 2 2]) (V := fun x => .int .i64 0) (R := dkR 44 60 5 52 57 x1 (⟨100, [], [], [], []⟩ : Dk)) (R' := fun x => dkR 44 60 5 52 57 x1 (al1 x)) (Lo := fun _ => []) (F := fun x _ => True) EN_11 rfl rfl hs 0 1 (by decide) rfl rfl (fun S0 h0 l0 m0 => alA1 _ S0 x1  h0 l0 (some ⟨b3, 0, none⟩) 2 (.inl (Rd.frz (hs.get_obj 1 rfl) (by decide))) m0) fun x6 w7 hs hF8 => ?_)
  replace hs : Own w no w7 [dkR 44 60 5 52 57 x1 (al1 x6), frz b3 [120, 121] 5] := hs
  refine RW_gy rfl (L_neq rfl rfl ?_)
  refine RW_op (L_pick (V := .bool false) rfl rfl ?_)
  refine RW_op (L_move (V := .bool false) rfl ?_)
  refine RW_gy rfl (L_move (V := .pointer (some ⟨x1, 0, none⟩)) rfl ?_)
  refine RW_gy rfl (L_callB2 (α := Unit) (vs := [.pointer (some ⟨x1, 0, none⟩), sv [97]]) (V := fun x => .int .i64 0) (R := dkR 44 60 5 52 57 x1 (al1 x6)) (R' := fun x => dkR 44 60 5 52 57 x1 (al2 x6)) (Lo := fun _ => []) (F := fun x _ => True) EN_12 rfl rfl hs 0 rfl (fun S0 h0 l0 m0 => alA2 _ S0 x1 x6 h0 l0 ) fun x9 w10 hs hF11 => ?_)
  refine RW_gy rfl (L_neq rfl rfl ?_)
  refine RW_op (L_pick (V := .bool false) rfl rfl ?_)
  refine RW_op (L_move (V := .bool false) rfl ?_)
  refine RW_gy rfl (L_move (V := .pointer (some ⟨x1, 0, none⟩)) rfl ?_)
  refine RW_gy rfl (L_callB2 (α := Unit) (vs := [.pointer (some ⟨x1, 0, none⟩)]) (V := fun x => .int .i64 0) (R := dkR 44 60 5 52 57 x1 (al2 x6)) (R' := fun x => dkR 44 60 5 52 57 x1 (al3 x6)) (Lo := fun _ => []) (F := fun x _ => True) EN_13 rfl rfl hs 0 rfl (fun S0 h0 l0 m0 => alA3 _ S0 x1 x6 h0 l0 hcl) fun x12 w13 hs hF14 => ?_)
  refine RW_gy rfl (L_neq rfl rfl ?_)
  refine RW_op (L_pick (V := .bool false) rfl rfl ?_)
  refine RW_op (L_move (V := .bool false) rfl ?_)
  refine RW_gy rfl (L_move (V := .pointer (some ⟨x1, 0, none⟩)) rfl ?_)
  refine RW_gy rfl (L_bs (vals := [.int .u8 122]) (ls := List.map (ic .u8) ([122] : List Int)) EL_23 rfl rfl rfl (len_map (enc := (ic .u8)) (fun _ => rfl) _) (one_map (ic_one .u8) _) (Nat.le_of_ble_eq_true rfl) hs fun b15 w16 hs => ?_)
  refine RW_gy rfl (L_convSl (l := [122]) rfl UDR_23 UDR_5 hs 2 rfl rfl rfl fun w17 hs => ?_)
  replace hs : Own w no w17 [dkR 44 60 5 52 57 x1 (al3 x6), frz b3 [120, 121] 5, frz b15 [122] 5] := hs
  refine RW_gy rfl (L_callF (α := Unit) (vs := [.pointer (some ⟨x1, 0, none⟩), sv [97], .slice (some ⟨b15, 0, none⟩) 1 1]) (V := fun x => .int .i64 0) (R := dkR 44 60 5 52 57 x1 (al3 x6)) (R' := fun x => dkR 44 60 5 52 57 x1 (al4 x6)) (Lo := fun _ => []) (F := fun x _ => True) EN_11 rfl rfl hs 0 2 (by decide) rfl rfl (fun S0 h0 l0 m0 => alA4 _ S0 x1 x6 h0 l0 (some ⟨b15, 0, none⟩) 1 (.inl (Rd.frz (hs.get_obj 2 rfl) (by decide))) m0) fun x18 w19 hs hF20 => ?_)
  refine RW_gy rfl (L_neq rfl rfl ?_)
  refine RW_op (L_pick (V := .bool false) rfl rfl ?_)
  refine RW_op (L_move (V := .bool false) rfl ?_)
  refine RW_gy rfl (L_move (V := .pointer (some ⟨x1, 0, none⟩)) rfl ?_)
  refine RW_gy rfl (L_bs (vals := [.int .u8 113]) (ls := List.map (ic .u8) ([113] : List Int)) EL_23 rfl rfl rfl (len_map (enc := (ic .u8)) (fun _ => rfl) _) (one_map (ic_one .u8) _) (Nat.le_of_ble_eq_true rfl) hs fun b21 w22 hs => ?_)
  refine RW_gy rfl (L_convSl (l := [113]) rfl UDR_23 UDR_5 hs 3 rfl rfl rfl fun w23 hs => ?_)
  refine RW_gy rfl (L_callF (α := Nat) (vs := [.pointer (some ⟨x1, 0, none⟩), sv [98], .slice (some ⟨b21, 0, none⟩) 1 1]) (V := fun x => .int .i64 0) (R := dkR 44 60 5 52 57 x1 (al4 x6)) (R' := fun x => dkR 44 60 5 52 57 x1 (al5 x6 x)) (Lo := fun _ => []) (F := fun x _ => x6 ≠ x) EN_11 rfl rfl hs 0 3 (by decide) rfl rfl (fun S0 h0 l0 m0 => alA5 _ S0 x1 x6 h0 l0 (some ⟨b21, 0, none⟩) 1 (.inl (Rd.frz (hs.get_obj 3 rfl) (by decide))) m0) fun x24 w25 hs hF26 => ?_)
  replace hs : Own w no w25 [dkR 44 60 5 52 57 x1 (al5 x6 x24), frz b3 [120, 121] 5, frz b15 [122] 5, frz b21 [113] 5] := hs
  refine RW_gy rfl (L_neq rfl rfl ?_)
  refine RW_op (L_pick (V := .bool false) rfl rfl ?_)
  refine RW_op (L_move (V := .bool false) rfl ?_)
  refine RW_gy rfl (L_move (V := .pointer (some ⟨x1, 0, none⟩)) rfl ?_)
  have hpq := hF26
  refine RW_gy rfl (L_callP (vs := [.pointer (some ⟨x1, 0, none⟩)]) (V := .int .i64 4) EN_17 rfl rfl ?hc hs fun w27 hs => ?_)
  case hc => exact (alU _ x1 x6 x24 hpq (hs.dkf 0 rfl))
  refine RW_gy rfl (L_neq rfl rfl ?_)
  refine RW_op (L_pick (V := .bool false) rfl rfl ?_)
  refine RW_nil ?_
  refine W_condF rfl ?_
  refine W_skip ?_
  refine W_seq ?_
  refine W_region ?_
  refine RW_op (L_move (V := .pointer (some ⟨x1, 0, none⟩)) rfl ?_)
  refine RW_op (L_callB2 (α := Unit) (vs := [.pointer (some ⟨x1, 0, none⟩), .int .u8 0, .slice none 0 0]) (V := fun x => .int .i64 0) (R := dkR 44 60 5 52 57 x1 (al5 x6 x24)) (R' := fun x => dkR 44 60 5 52 57 x1 (al6 x6 x24)) (Lo := fun _ => []) (F := fun x _ => True) EN_14 rfl rfl hs 0 rfl (fun S0 h0 l0 m0 => alA6 _ S0 x1 x6 x24 h0 l0 hcl) fun x28 w29 hs hF30 => ?_)
  refine RW_op (L_assign (V := .int .i64 0) rfl ?_)
  refine RW_nil ?_
  refine W_seq ?_
  refine W_region ?_
  refine RW_op (L_move (V := .pointer (some ⟨x1, 0, none⟩)) rfl ?_)
  refine RW_op (L_callX (vs := [.pointer (some ⟨x1, 0, none⟩), sv [97]]) (V := fun x : Option Addr × Nat => .tuple #[.slice x.1 ([120, 121] : List Int).length x.2, .int .i64 0]) (Lo := fun x => [row (.slice x.1 ([120, 121] : List Int).length x.2) (([120, 121] : List Int).map (ic .u8)) 5 1]) (F := fun _ _ => True) EN_15 rfl rfl ?hc hs fun x31 w32 hs _ => ?_)
  case hc => exact (kReadDS _ x1 (al6 x6 x24) (hs.dkf 0 rfl) [97] x6 ([120, 121] : List Int) 2 rfl ⟨0, rfl⟩ (by decide))
  refine RW_op (L_move (V := .tuple #[.slice x31.1 (([120, 121] : List Int).length) x31.2, .int .i64 0]) rfl ?_)
  refine RW_op (L_extract (V := .slice x31.1 (([120, 121] : List Int).length) x31.2) rfl rfl ?_)
  refine RW_op (L_extract (V := .int .i64 0) rfl rfl ?_)
  refine RW_op (L_assign (V := .slice x31.1 (([120, 121] : List Int).length) x31.2) rfl ?_)
  refine RW_op (L_assign (V := .int .i64 0) rfl ?_)
  refine RW_nil ?_
  refine W_seq ?_
  refine W_region ?_
  refine RW_op (L_move (V := .pointer (some ⟨x1, 0, none⟩)) rfl ?_)
  refine RW_op (L_callP (vs := [.pointer (some ⟨x1, 0, none⟩), sv [98]]) (V := .tuple #[.slice none 0 0, .int .i64 7]) EN_15 rfl rfl ?hc hs fun w33 hs => ?_)
  case hc => exact (kReadDN _ x1 (al6 x6 x24) (hs.dkf 0 rfl) [98] rfl)
  refine RW_op (L_move (V := .tuple #[.slice none 0 0, .int .i64 7]) rfl ?_)
  refine RW_op (L_extract (V := .slice none 0 0) rfl rfl ?_)
  refine RW_op (L_extract (V := .int .i64 7) rfl rfl ?_)
  refine RW_op (L_assign (V := .slice none 0 0) rfl ?_)
  refine RW_op (L_assign (V := .int .i64 7) rfl ?_)
  refine RW_nil ?_
  refine W_seq ?_
  refine W_region ?_
  refine RW_op (L_move (V := .int .i64 0) rfl ?_)
  refine RW_op (L_eql rfl rfl ?_)
  refine RW_op (L_move (V := .bool true) rfl ?_)
  refine RW_gy rfl (L_move (V := .slice x31.1 (([120, 121] : List Int).length) x31.2) rfl ?_)
  refine RW_gy rfl (L_convS UDR_23 UDR_5 UDR_9 (hs.rd 4 rfl) rfl ?_)
  refine RW_gy rfl (opW_to (V := .bool (decide (sOf [120, 121] = [120, 121]))) (V' := .bool true) (L_eqS rfl rfl ⟨rfl, rfl⟩) (congrArg Value.bool (by decide)) ?_)
  refine RW_op (L_pick (V := .bool true) rfl rfl ?_)
  refine RW_op (L_move (V := .bool true) rfl ?_)
  refine RW_gy rfl (L_move (V := .int .i64 0) rfl ?_)
  refine RW_gy rfl (L_eql rfl rfl ?_)
  refine RW_op (L_pick (V := .bool true) rfl rfl ?_)
  refine RW_op (L_move (V := .bool true) rfl ?_)
  refine RW_gy rfl (L_move (V := .int .i64 7) rfl ?_)
  refine RW_gy rfl (L_eql rfl rfl ?_)
  refine RW_op (L_pick (V := .bool true) rfl rfl ?_)
  refine RW_op (L_move (V := .bool true) rfl ?_)
  refine RW_gy rfl (L_move (V := .pointer (some ⟨x1, 0, none⟩)) rfl ?_)
  refine RW_gy rfl (L_callX (vs := [.pointer (some ⟨x1, 0, none⟩)]) EN_16 rfl rfl (kListD _ x1 (al6 x6 x24) (hs.dkf 0 rfl) (by simp [al6]) hso) hs fun x34 w35 hs hF36 => ?_)
  have hlen : x34.1.length = 1 := hF36.length_eq
  refine RW_gy rfl (L_lenR (n := x34.1.length) UD_46 (hs.rd 5 rfl) (by simp) rfl ?_)
  refine RW_gy rfl (opW_to (V := .bool (decide (((x34.1.length : Nat) : Int) = 1))) (V' := .bool true) (L_eql rfl rfl ⟨rfl, rfl⟩) (congrArg Value.bool (by rw [hlen]; rfl)) ?_)
  refine RW_op (L_pick (V := .bool true) rfl rfl ?_)
  refine RW_op (L_assign (V := .bool true) rfl ?_)
  refine RW_nil ?_
  refine W_ret ?_
  refine ⟨_, res_one (V := .bool true) Try.results6 rfl, ?_⟩
  refine ⟨congrArg Ending.returned ?_, hs.take 0⟩
  rfl
end Tt
end Go.Proofs
namespace Go.Proofs
open Go Go.Vx Go.RowKit
namespace Tt
theorem dsA (w : World) (S : Nat → Prop) (b : Nat) (m : Dk) (N : Nat) (hk : DOk N m) (hN : N ≤ 100) (hR : (dkR 44 60 5 52 57 b m).holds w S) (hlt : ∀ x, S x → x < w.heap.size) (ba : Option Addr) (bc : Nat) (bs : List Int) (hrb : RdX w (.slice ba bs.length bc) 1 (bs.map (ic .u8))) (hSb : bs ≠ [] → ¬ S (bkS (.slice ba bs.length bc))) (hbn : bs.length ≤ 1000) (hg : mget sN m.nm = none) (hr : m.room = 1048576) : Calls Try.prog 11 #[.pointer (some ⟨b, 0, none⟩), sv sN, .slice ba bs.length bc] w (fun e w' => ∃ x : Nat × Dk, e = .returned (.int .i64 0) ∧ Own w S w' [dkR 44 60 5 52 57 b x.2] ∧ Qs (N + 1) sN x.1 bs 0 1048576 x.2) := by
  have hn := hk.nch
  have ht := hk.nts
  have hu := hk.used (dk_nodup hR hlt)
  refine (kAppN_ok w S b m hR hlt (by omega) (by omega) hk.now.names (by omega) sN ba bc bs hrb hSb (by omega) hg).mono fun e w' ⟨x, he, ho, hF⟩ => ?_
  rcases hF with ⟨_, _, h3⟩ | ⟨_, _, h3⟩ | ⟨h1, _, p, h3, h2⟩
  · have : mayB sN = true := by decide
    rw [this] at h3; simp at h3; omega
  · omega
  · rw [h1] at he; rw [h2] at ho
    exact ⟨(p, _), he, ho, Qs.of_new hk hr (by decide) h3 hbn⟩
theorem dsB (w : World) (S : Nat → Prop) (b : Nat) (m : Dk) (N : Nat) (p : Nat) (cs : List Int) (sf : Nat) (hk : Qs N sN p cs sf 1048576 m) (hN : N ≤ 100) (hR : (dkR 44 60 5 52 57 b m).holds w S) (hlt : ∀ x, S x → x < w.heap.size) : Calls Try.prog 12 #[.pointer (some ⟨b, 0, none⟩), sv sN] w (fun e w' => ∃ x : Dk, e = .returned (.int .i64 0) ∧ Own w S w' [dkR 44 60 5 52 57 b x] ∧ Qs (N + 1) sN p cs cs.length 1048576 x) := by
  obtain ⟨i, hi⟩ := hk.at_
  exact (kSyncS_ok w S b m hR hlt sN i ⟨p, cs, sf⟩ hi hk.get).mono fun e w' ⟨_, he, ho, _⟩ => ⟨_, he, ho, hk.sync hi⟩
theorem dsC (w : World) (S : Nat → Prop) (b : Nat) (m : Dk) (N : Nat) (p : Nat) (cs : List Int) (sf : Nat) (hk : Qs N sN p cs sf 1048576 m) (hN : N ≤ 100) (hR : (dkR 44 60 5 52 57 b m).holds w S) (hlt : ∀ x, S x → x < w.heap.size) (hcl : CloneC Try.prog 24) : Calls Try.prog 13 #[.pointer (some ⟨b, 0, none⟩)] w (fun e w' => ∃ x : Dk, e = .returned (.int .i64 0) ∧ Own w S w' [dkR 44 60 5 52 57 b x] ∧ Qt (N + 1) sN p cs sf 1048576 x) :=
  (kSyncDir_ok w S b m hR hlt hcl).mono fun e w' ⟨_, he, ho, _⟩ => ⟨_, he, ho, hk.syncDir⟩
theorem dsD (w : World) (S : Nat → Prop) (b : Nat) (m : Dk) (N : Nat) (p : Nat) (cs : List Int) (sf : Nat) (hk : Qt N sN p cs sf 1048576 m) (hN : N ≤ 100) (hR : (dkR 44 60 5 52 57 b m).holds w S) (hlt : ∀ x, S x → x < w.heap.size) (ba : Option Addr) (bc : Nat) (bs : List Int) (hrb : RdX w (.slice ba bs.length bc) 1 (bs.map (ic .u8))) (hSb : bs ≠ [] → ¬ S (bkS (.slice ba bs.length bc))) (hbn : bs.length ≤ 1000) : Calls Try.prog 11 #[.pointer (some ⟨b, 0, none⟩), sv sN, .slice ba bs.length bc] w (fun e w' => ∃ x : Dk, e = .returned (.int .i64 0) ∧ Own w S w' [dkR 44 60 5 52 57 b x] ∧ Qt (N + 1) sN p (cs ++ bs) sf 1048576 x) := by
  have hn := hk.q.ok.nch
  have ht := hk.q.ok.nts
  have hu := hk.q.ok.used (dk_nodup hR hlt)
  have hr := hk.q.room
  obtain ⟨i, hi⟩ := hk.q.at_
  have hl := hk.q.ok.len (List.mem_of_getElem? hi)
  refine (kAppS_ok w S b m hR hlt (by omega) (by omega) hk.q.ok.now.names (by omega) sN ba bc bs hrb hSb (by omega) i ⟨p, cs, sf⟩ hi hk.q.get (by omega)).mono fun e w' ⟨x, he, ho, hF⟩ => ?_
  rcases hF with ⟨_, _, h3⟩ | ⟨_, _, h3⟩ | ⟨h1, h2⟩
  · have : mayB sN = true := by decide
    rw [this] at h3; simp at h3; omega
  · omega
  · rw [h1] at he; rw [h2] at ho
    exact ⟨_, he, ho, hk.app hi hbn⟩
theorem dsE (w : World) (S : Nat → Prop) (b : Nat) (m : Dk) (N : Nat) (p : Nat) (cs : List Int) (sf : Nat) (hk : Qt N sN p cs sf 1048576 m) (hN : N ≤ 100) (hR : (dkR 44 60 5 52 57 b m).holds w S) (hlt : ∀ x, S x → x < w.heap.size) (ba : Option Addr) (bc : Nat) (bs : List Int) (hrb : RdX w (.slice ba bs.length bc) 1 (bs.map (ic .u8))) (hSb : bs ≠ [] → ¬ S (bkS (.slice ba bs.length bc))) (hbn : bs.length ≤ 1000) : Calls Try.prog 11 #[.pointer (some ⟨b, 0, none⟩), sv sO, .slice ba bs.length bc] w (fun e w' => ∃ x : Dk, e = .returned (.int .i64 0) ∧ Own w S w' [dkR 44 60 5 52 57 b x] ∧ Qt (N + 1) sN p cs sf 1048576 x) := by
  have hn := hk.q.ok.nch
  have ht := hk.q.ok.nts
  have hu := hk.q.ok.used (dk_nodup hR hlt)
  have hr := hk.q.room
  have hm : mayB sO = true := by decide
  cases h : mget sO m.nm with
  | none =>
    refine (kAppN_ok w S b m hR hlt (by omega) (by omega) hk.q.ok.now.names (by omega) sO ba bc bs hrb hSb (by omega) h).mono fun e w' ⟨x, he, ho, hF⟩ => ?_
    rcases hF with ⟨_, _, h3⟩ | ⟨_, _, h3⟩ | ⟨h1, _, p2, h3, h2⟩
    · rw [hm] at h3; simp at h3; omega
    · omega
    · rw [h1] at he; rw [h2] at ho
      exact ⟨_, he, ho, hk.new (by decide) (by decide) h3 hbn⟩
  | some v =>
    obtain ⟨i, t, hi, rfl⟩ := hk.q.ok.thing h
    have hl := hk.q.ok.len (List.mem_of_getElem? hi)
    refine (kAppS_ok w S b m hR hlt (by omega) (by omega) hk.q.ok.now.names (by omega) sO ba bc bs hrb hSb (by omega) i t hi h (by omega)).mono fun e w' ⟨x, he, ho, hF⟩ => ?_
    rcases hF with ⟨_, _, h3⟩ | ⟨_, _, h3⟩ | ⟨h1, h2⟩
    · rw [hm] at h3; simp at h3; omega
    · omega
    · rw [h1] at he; rw [h2] at ho
      exact ⟨_, he, ho, hk.other (by decide) hi h hbn⟩
theorem dsF (w : World) (S : Nat → Prop) (b : Nat) (m : Dk) (N : Nat) (p : Nat) (cs : List Int) (sf : Nat) (hk : Qt N sN p cs sf 1048576 m) (hN : N ≤ 100) (hR : (dkR 44 60 5 52 57 b m).holds w S) (hlt : ∀ x, S x → x < w.heap.size) (hcl : CloneC Try.prog 24) (y : Int) (hy0 : 0 ≤ y) (hy1 : y < 256) (ca : Option Addr) (cc : Nat) (cuts : List Int) (hcu : ∀ x ∈ cuts, 0 ≤ x ∧ x < 256) (hrc : RdX w (.slice ca cuts.length cc) 1 (cuts.map (ic .u8))) (hSc : cuts ≠ [] → ¬ S (bkS (.slice ca cuts.length cc))) (hcn : cuts.length ≤ 50) : Calls Try.prog 14 #[.pointer (some ⟨b, 0, none⟩), .int .u8 y, .slice ca cuts.length cc] w (fun e w' => ∃ x : Nat × Dk, e = .returned (.int .i64 0) ∧ Own w S w' [dkR 44 60 5 52 57 b x.2] ∧ (sf ≤ x.1 ∧ x.1 ≤ cs.length ∧ Qs (N + 1) sN p (cs.take x.1) x.1 1048576 x.2)) :=
  (kCrashG w S b m N hk.q.ok (by omega) hR hlt hcl y hy0 hy1 ca cc cuts hcu hrc hSc hcn).mono fun e w' ⟨k, he, ho, hk2⟩ => by
    obtain ⟨n, h1, h2, h3⟩ := hk.crash hk2 cuts
    exact ⟨(n, _), he, ho, h1, h2, h3⟩
end Tt
end Go.Proofs
namespace Go.Proofs
open Go Go.Vx Go.RowKit
namespace Tt
set_option maxRecDepth 20000 in
set_option maxHeartbeats 4000000 in
theorem diskSafe_ok (w : World) (hcl : CloneC Try.prog 24) (hso : SortP Try.prog 32 9) (la : Option Addr) (lc : Nat) (l : List Dact) (hl : ∀ x ∈ l, ActOk w x) (hr : Rd w (.slice la l.length lc) 7 (l.map acc)) (a0 : Option Addr) (c0 : Nat) (t0 : List Int) (a1 : Option Addr) (c1 : Nat) (t1 : List Int) (ht0 : RdX w (.slice a0 t0.length c0) 1 (t0.map (ic .u8))) (ht1 : RdX w (.slice a1 t1.length c1) 1 (t1.map (ic .u8))) (y : Dact) (hy : ActOk w y) : Calls Try.prog 3 #[.slice la l.length lc, .agg #[.slice a0 t0.length c0, .slice a1 t1.length c1], .agg (acc y).toArray] w (fun e w' => e = .returned (.bool true) ∧ Own w no w' []) := by
  refine calls_of_Wn (n := 145) Try.func3 rfl Try.ntmps3 rfl ?_
  have hs := Own.start w
  have hlen := hr.sml
  have hz0 := ht0.sml
  have hz1 := ht1.sml
  refine W_seq ?_
  refine W_region ?_
  refine RW_op (L_box (V := .agg #[.slice a0 t0.length c0, .slice a1 t1.length c1]) (cs := [.slice a0 t0.length c0, .slice a1 t1.length c1]) rfl rfl hs fun b1 w2 hs => ?_)
  refine RW_op (L_box (V := .agg (acc y).toArray) (cs := acc y) rfl rfl hs fun b3 w4 hs => ?_)
  refine RW_op (L_assign (V := .bool false) rfl ?_)
  refine RW_nil ?_
  refine W_seq ?_
  refine W_seq ?_
  refine W_region ?_
  refine RW_op (L_callP (vs := []) (V := .bool true) EN_6 rfl rfl ?hc hs fun w5 hs => ?_)
  case hc => exact (alive11_ok _ hcl hso)
  refine RW_op (L_not rfl ?_)
  refine RW_nil ?_
  refine W_condF rfl ?_
  refine W_skip ?_
  refine W_seq ?_
  refine W_region ?_
  refine RW_op (L_callX (vs := [.int .i64 1048576]) (V := fun x : Nat => .pointer (some ⟨x, 0, none⟩)) (Lo := fun x => [dkR 44 60 5 52 57 x (⟨1048576, [], [], [], []⟩ : Dk)]) (F := fun _ _ => True) EN_7 rfl rfl ?hc hs fun x6 w7 hs _ => ?_)
  case hc => exact (kNew_ok _ 1048576 (by decide) (by decide))
  refine RW_op (L_assign (V := .pointer (some ⟨x6, 0, none⟩)) rfl ?_)
  refine RW_nil ?_
  refine W_seq ?_
  refine W_seq ?_
  refine W_regO [some 15, some 16, some 17, some 18, some 19, some 20, some 21, some 22, some 23, some 24, some 25, some 26, some 27, some 28, some 29, some 30, some 31, some 32, some 33] [] [0, 1, 3, 7, 15, 31, 63, 127, 255, 511, 1023, 2047, 4095, 8191, 16383, 32767, 65535, 131071, 262143] [pv (.pointer (some ⟨x6, 0, none⟩)), pv (.bool false), pv (.bool false), pv (.agg (acc y).toArray), pv (.bool (fewA y)), pv (.bool (!(fewA y))), pv (.bool (!(fewA y))), pv (.bool (!(fewA y))), pg ((!(fewA y)) == false) (.pointer (some ⟨b1, 0 + (0 : Int).toNat, none⟩)), pg ((!(fewA y)) == false) (.slice a0 t0.length c0), pg ((!(fewA y)) == false) (.int .i64 ((t0.length : Nat) : Int)), pg ((!(fewA y)) == false) (.bool (decide (1000 < ((t0.length : Nat) : Int)))), pv (.bool ((!(fewA y)) || (decide (1000 < ((t0.length : Nat) : Int))))), pv (.bool ((!(fewA y)) || (decide (1000 < ((t0.length : Nat) : Int))))), pg (((!(fewA y)) || (decide (1000 < ((t0.length : Nat) : Int)))) == false) (.pointer (some ⟨b1, 0 + (1 : Int).toNat, none⟩)), pg (((!(fewA y)) || (decide (1000 < ((t0.length : Nat) : Int)))) == false) (.slice a1 t1.length c1), pg (((!(fewA y)) || (decide (1000 < ((t0.length : Nat) : Int)))) == false) (.int .i64 ((t1.length : Nat) : Int)), pg (((!(fewA y)) || (decide (1000 < ((t0.length : Nat) : Int)))) == false) (.bool (decide (1000 < ((t1.length : Nat) : Int)))), pv (.bool (((!(fewA y)) || (decide (1000 < ((t0.length : Nat) : Int)))) || (decide (1000 < ((t1.length : Nat) : Int)))))] (fun _ _ => _) [18] (by kernel_rfl) hs ⟨?_, ?_, ?_, ?_, ?_, ?_, ?_, ?_, ?_, ?_, ?_, ?_, ?_, ?_, ?_, ?_, ?_, ?_, ?_, trivial⟩ ?_
  · exact ob [] [] rfl rfl fun D ρ w hs => L_move (V := .pointer (some ⟨x6, 0, none⟩)) rfl ⟨rfl, hs⟩
  · exact ob [0] [] rfl rfl fun D ρ w hs => L_ptrnil UD_28 rfl rfl ⟨rfl, hs⟩
  · exact ob [1] [] rfl rfl fun D ρ w hs => L_move (V := .bool false) rfl ⟨rfl, hs⟩
  · exact obg [2] [] false rfl (fun _ => rfl) rfl (fun _ _ _ h => nomatch h) fun D ρ w _ hs => L_ldW (cs := acc y) SA_26 hs 1 rfl rfl rfl ⟨rfl, hs⟩
  · exact obg [2, 3] [] false rfl (fun _ => rfl) rfl (fun _ _ _ h => nomatch h) fun D ρ w _ hs => L_callP (vs := [.agg (acc y).toArray]) (V := .bool (fewA y)) EN_8 rfl rfl (kFew_ok _ y (ActOk.own' hy hs)) hs fun _ hs => ⟨rfl, hs⟩
  · exact obg [2, 4] [] false rfl (fun _ => rfl) rfl (fun _ _ _ h => nomatch h) fun D ρ w _ hs => L_not rfl ⟨rfl, hs⟩
  · exact ob [2, 5] [] rfl rfl fun D ρ w hs => L_pick (V := .bool (!(fewA y))) rfl rfl ⟨rfl, hs⟩
  · exact ob [6] [] rfl rfl fun D ρ w hs => L_move (V := .bool (!(fewA y))) rfl ⟨rfl, hs⟩
  · exact obg [7] [] (!(fewA y)) rfl (fun _ => rfl) rfl (fun _ _ _ _ h => h) fun D ρ w hG hs => L_ixArr1 UD_24 S1_23.1 rfl rfl (by decide) (by decide) ⟨rfl, hs⟩
  · exact obgy [7, 8] [] [8] (!(fewA y)) rfl (fun _ => rfl) rfl (fun _ _ _ _ h => h) (fun hG => ⟨hG, trivial⟩) fun D ρ w hG hs => L_ld (V := .slice a0 t0.length c0) S1_23 hs 0 rfl rfl rfl ⟨rfl, hs⟩
  · exact obgy [7, 9] [] [9] (!(fewA y)) rfl (fun _ => rfl) rfl (fun _ _ _ _ h => h) (fun hG => ⟨hG, trivial⟩) fun D ρ w hG hs => L_lenX (n := t0.length) UD_23 (RdX.own' ht0 hs) (by simp) rfl ⟨rfl, hs⟩
  · exact obgy [7, 10] [] [10] (!(fewA y)) rfl (fun _ => rfl) rfl (fun _ _ _ _ h => h) (fun hG => ⟨hG, trivial⟩) fun D ρ w hG hs => L_gtr rfl rfl ⟨rfl, hs⟩
  · exact ob [7, 11] [] rfl rfl fun D ρ w hs => L_orC (h' := decide (1000 < ((t0.length : Nat) : Int))) rfl rfl rfl ⟨rfl, hs⟩
  · exact ob [12] [] rfl rfl fun D ρ w hs => L_move (V := .bool ((!(fewA y)) || (decide (1000 < ((t0.length : Nat) : Int))))) rfl ⟨rfl, hs⟩
  · exact obg [13] [] ((!(fewA y)) || (decide (1000 < ((t0.length : Nat) : Int)))) rfl (fun _ => rfl) rfl (fun _ _ _ _ h => h) fun D ρ w hG hs => L_ixArr1 UD_24 S1_23.1 rfl rfl (by decide) (by decide) ⟨rfl, hs⟩
  · exact obgy [13, 14] [] [14] ((!(fewA y)) || (decide (1000 < ((t0.length : Nat) : Int)))) rfl (fun _ => rfl) rfl (fun _ _ _ _ h => h) (fun hG => ⟨hG, trivial⟩) fun D ρ w hG hs => L_ld (V := .slice a1 t1.length c1) S1_23 hs 0 rfl rfl rfl ⟨rfl, hs⟩
  · exact obgy [13, 15] [] [15] ((!(fewA y)) || (decide (1000 < ((t0.length : Nat) : Int)))) rfl (fun _ => rfl) rfl (fun _ _ _ _ h => h) (fun hG => ⟨hG, trivial⟩) fun D ρ w hG hs => L_lenX (n := t1.length) UD_23 (RdX.own' ht1 hs) (by simp) rfl ⟨rfl, hs⟩
  · exact obgy [13, 16] [] [16] ((!(fewA y)) || (decide (1000 < ((t0.length : Nat) : Int)))) rfl (fun _ => rfl) rfl (fun _ _ _ _ h => h) (fun hG => ⟨hG, trivial⟩) fun D ρ w hG hs => L_gtr rfl rfl ⟨rfl, hs⟩
  · exact ob [13, 17] [] rfl rfl fun D ρ w hs => L_orC (h' := decide (1000 < ((t1.length : Nat) : Int))) rfl rfl rfl ⟨rfl, hs⟩
  rintro ρ1 w9 ρ2 hρ hs
  replace hρ : ρ2 = upd (mix [15, 16, 17, 18, 19, 20, 21, 22, 23, 24, 25, 26, 27, 28, 29, 30, 31, 32, 33] ρ1 _) 33 (.bool (((!(fewA y)) || (decide (1000 < ((t0.length : Nat) : Int)))) || (decide (1000 < ((t1.length : Nat) : Int))))) := hρ
  subst hρ
  refine W_cond (t := ((!(fewA y)) || (decide (1000 < ((t0.length : Nat) : Int)))) || (decide (1000 < ((t1.length : Nat) : Int)))) rfl (fun c10 => ?_) (fun c10 => ?_)
  ·
    refine W_seq ?_
    refine W_region ?_
    refine RW_op (L_move (V := .pointer (some ⟨x6, 0, none⟩)) rfl ?_)
    refine RW_op (L_ptrnn UD_28 rfl rfl ?_)
    refine RW_op (L_assign (V := .bool true) rfl ?_)
    refine RW_nil ?_
    refine W_ret ?_
    refine ⟨_, res_one (V := .bool true) Try.results3 rfl, ?_⟩
    refine ⟨congrArg Ending.returned ?_, hs.take 0⟩
    rfl
  ·
    have c10r := or_r c10
    replace c10 := or_l c10
    have c10rr := or_r c10
    replace c10 := or_l c10
    replace c10 := not_f c10
    replace c10rr := of_decide_eq_false c10rr
    replace c10r := of_decide_eq_false c10r
    refine W_skip ?_
    refine W_seq ?_
    refine W_seq ?_
    refine W_region ?_
    refine RW_op (L_assign (V := .int .i64 0) rfl ?_)
    refine RW_nil ?_
    refine W_block ?_
    refine W_loopI (fun ρ μ ρ' w' => ∃ (ρo : Env) (k : Nat) (m : Dk), ρ' = upd (mix [8, 36, 37, 38, 39, 40, 41, 42, 43, 44, 45, 46, 47, 48, 49, 50, 51, 52, 53, 54, 55, 56, 57, 58, 59, 60, 61, 62, 63, 64, 65] ρo ρ) 8 (.int .i64 ((k : Nat) : Int)) ∧ (k ≤ l.length) ∧ (k ≤ 60) ∧ (DOk k m) ∧ (m.room = 1048576) ∧ μ = l.length - k ∧ Own w no w' [blk b1 [.slice a0 t0.length c0, .slice a1 t1.length c1] 24, blk b3 (acc y) 26, dkR 44 60 5 52 57 x6 m]) ?_ ?_
    · exact ⟨_, _, 0, (⟨1048576, [], [], [], []⟩ : Dk), upd_of (mix_of (ds := [8, 36, 37, 38, 39, 40, 41, 42, 43, 44, 45, 46, 47, 48, 49, 50, 51, 52, 53, 54, 55, 56, 57, 58, 59, 60, 61, 62, 63, 64, 65]) (Agr.refl _ _)) rfl, (Nat.zero_le _), (Nat.zero_le _), (DOk.new _), rfl, rfl, hs⟩
    · rintro μ ρ' w11 ⟨ρo, k, m, rfl, hkl, hk60, hkm, hroom, rfl, hs⟩
      refine W_seq ?_
      refine W_seq ?_
      refine W_regO [some 36, some 37, some 38, some 39, some 40, some 41, some 42, some 43] [] [0, 0, 2, 7, 15, 31, 63, 127] [pv (.int .i64 ((k : Nat) : Int)), pv (.slice la l.length lc), pv (.int .i64 ((l.length : Nat) : Int)), pv (.bool (decide (((k : Nat) : Int) < ((l.length : Nat) : Int)))), pv (.bool (decide (((k : Nat) : Int) < ((l.length : Nat) : Int)))), pg ((decide (((k : Nat) : Int) < ((l.length : Nat) : Int))) == true) (.int .i64 ((k : Nat) : Int)), pg ((decide (((k : Nat) : Int) < ((l.length : Nat) : Int))) == true) (.bool (decide (((k : Nat) : Int) < 60))), pv (.bool ((decide (((k : Nat) : Int) < ((l.length : Nat) : Int))) && (decide (((k : Nat) : Int) < 60))))] (fun _ _ => _) [7] (by kernel_rfl) hs ⟨?_, ?_, ?_, ?_, ?_, ?_, ?_, ?_, trivial⟩ ?_
      · exact ob [] [] rfl rfl fun D ρ w hs => L_move (V := .int .i64 ((k : Nat) : Int)) rfl ⟨rfl, hs⟩
      · exact ob [] [] rfl rfl fun D ρ w hs => L_move (V := .slice la l.length lc) rfl ⟨rfl, hs⟩
      · exact ob [1] [] rfl rfl fun D ρ w hs => L_lenR (n := l.length) UD_22 (Rd.own' hr hs) (by simp) rfl ⟨rfl, hs⟩
      · exact ob [0, 2] [] rfl rfl fun D ρ w hs => L_lss rfl rfl ⟨rfl, hs⟩
      · exact ob [3] [] rfl rfl fun D ρ w hs => L_move (V := .bool (decide (((k : Nat) : Int) < ((l.length : Nat) : Int)))) rfl ⟨rfl, hs⟩
      · exact obg [4] [] (decide (((k : Nat) : Int) < ((l.length : Nat) : Int))) rfl (fun _ => rfl) rfl (fun _ _ _ _ h => h) fun D ρ w hG hs => L_move (V := .int .i64 ((k : Nat) : Int)) rfl ⟨rfl, hs⟩
      · exact obgy [4, 5] [] [5] (decide (((k : Nat) : Int) < ((l.length : Nat) : Int))) rfl (fun _ => rfl) rfl (fun _ _ _ _ h => h) (fun hG => ⟨hG, trivial⟩) fun D ρ w hG hs => L_lss rfl rfl ⟨rfl, hs⟩
      · exact ob [4, 6] [] rfl rfl fun D ρ w hs => L_andC (h' := decide (((k : Nat) : Int) < 60)) rfl rfl rfl ⟨rfl, hs⟩
      rintro ρ1 w12 ρ2 hρ hs
      replace hρ : ρ2 = upd (mix [36, 37, 38, 39, 40, 41, 42, 43] ρ1 _) 43 (.bool ((decide (((k : Nat) : Int) < ((l.length : Nat) : Int))) && (decide (((k : Nat) : Int) < 60)))) := hρ
      subst hρ
      refine W_cond (t := (decide (((k : Nat) : Int) < ((l.length : Nat) : Int))) && (decide (((k : Nat) : Int) < 60))) rfl (fun c13 => ?_) (fun c13 => ?_)
      ·
        have c13r := and_r c13
        replace c13 := and_l c13
        replace c13 := of_decide_eq_true c13
        replace c13r := of_decide_eq_true c13r
        refine W_skip ?_
        refine W_seq ?_
        refine W_block ?_
        refine W_seq ?_
        refine W_regO [some 46, some 47, some 48, some 49, some 50, some 51, some 52, some 53, some 54, some 55, some 56, some 57, some 58, some 59] [] [0, 0, 3, 7, 15, 31, 63, 63, 255, 511, 1023, 2047, 4095, 8191] [pv (.slice la l.length lc), pv (.int .i64 ((k : Nat) : Int)), pv (.pointer (some ⟨bkS (.slice la l.length lc), ofS (.slice la l.length lc) + ((k : Nat) : Int).toNat * 7, none⟩)), pv (.agg (acc (gd l k)).toArray), pv (.bool (fewA (gd l k))), pv (.bool (fewA (gd l k))), pg ((fewA (gd l k)) == true) (.slice la l.length lc), pg ((fewA (gd l k)) == true) (.int .i64 ((k : Nat) : Int)), pg ((fewA (gd l k)) == true) (.pointer (some ⟨bkS (.slice la l.length lc), ofS (.slice la l.length lc) + ((k : Nat) : Int).toNat * 7, none⟩)), pg ((fewA (gd l k)) == true) (.pointer (some ⟨bkS (.slice la l.length lc), ofS (.slice la l.length lc) + ((k : Nat) : Int).toNat * 7 + 0, none⟩)), pg ((fewA (gd l k)) == true) (.int .u8 ((gd l k).kind)), pg ((fewA (gd l k)) == true) (.int .u8 (((gd l k).kind).tmod 9)), pg ((fewA (gd l k)) == true) (.bool (!decide (((gd l k).kind).tmod 9 = 8))), pv (.bool ((fewA (gd l k)) && (!decide (((gd l k).kind).tmod 9 = 8))))] (fun _ _ => _) [13] (by kernel_rfl) hs ⟨?_, ?_, ?_, ?_, ?_, ?_, ?_, ?_, ?_, ?_, ?_, ?_, ?_, ?_, trivial⟩ ?_
        · exact ob [] [] rfl rfl fun D ρ w hs => L_move (V := .slice la l.length lc) rfl ⟨rfl, hs⟩
        · exact ob [] [] rfl rfl fun D ρ w hs => L_move (V := .int .i64 ((k : Nat) : Int)) rfl ⟨rfl, hs⟩
        · exact ob [0, 1] [] rfl rfl fun D ρ w hs => L_ixR UD_22 SA_26.1 (Rd.own' hr hs) rfl rfl (by omega) (by rw [List.length_map]; omega) ⟨rfl, hs⟩
        · exact ob [2] [] rfl rfl fun D ρ w hs => L_ldRA (j := 0) (vs := acc (gd l k)) k SA_26 (Rd.own' hr hs) (gd_at (by omega)) rfl rfl rfl (by omega) ⟨rfl, hs⟩
        · exact ob [3] [] rfl rfl fun D ρ w hs => L_callP (vs := [.agg (acc (gd l k)).toArray]) (V := .bool (fewA (gd l k))) EN_8 rfl rfl (kFew_ok _ (gd l k) (ActOk.own' (hl _ (gd_mem (l := l) (i := k) (by omega))) hs)) hs fun _ hs => ⟨rfl, hs⟩
        · exact ob [4] [] rfl rfl fun D ρ w hs => L_move (V := .bool (fewA (gd l k))) rfl ⟨rfl, hs⟩
        · exact obg [5] [] (fewA (gd l k)) rfl (fun _ => rfl) rfl (fun _ _ _ _ h => h) fun D ρ w hG hs => L_move (V := .slice la l.length lc) rfl ⟨rfl, hs⟩
        · exact obg [5] [] (fewA (gd l k)) rfl (fun _ => rfl) rfl (fun _ _ _ _ h => h) fun D ρ w hG hs => L_move (V := .int .i64 ((k : Nat) : Int)) rfl ⟨rfl, hs⟩
        · exact obgy [5, 6, 7] [] [6, 7] (fewA (gd l k)) rfl (fun _ => rfl) rfl (fun _ _ _ _ h => h) (fun hG => ⟨hG, hG, trivial⟩) fun D ρ w hG hs => L_ixR UD_22 SA_26.1 (Rd.own' hr hs) rfl rfl (by omega) (by rw [List.length_map]; omega) ⟨rfl, hs⟩
        · exact obgy [5, 8] [] [8] (fewA (gd l k)) rfl (fun _ => rfl) rfl (fun _ _ _ _ h => h) (fun hG => ⟨hG, trivial⟩) fun D ρ w hG hs => L_fieldAddr FA_26_0 rfl ⟨rfl, hs⟩
        · exact obgy [5, 9] [] [9] (fewA (gd l k)) rfl (fun _ => rfl) rfl (fun _ _ _ _ h => h) (fun hG => ⟨hG, trivial⟩) fun D ρ w hG hs => L_ldR (j := 0) (V := .int .u8 ((gd l k).kind)) k S1_5 (Rd.own' hr hs) (gd_at (by omega)) rfl rfl (by omega) ⟨rfl, hs⟩
        · exact obgy [5, 10] [] [10] (fewA (gd l k)) rfl (fun _ => rfl) rfl (fun _ _ _ _ h => h) (fun hG => ⟨hG, trivial⟩) fun D ρ w hG hs => L_rem rfl rfl (by omega) rfl ⟨rfl, hs⟩
        · exact obgy [5, 11] [] [11] (fewA (gd l k)) rfl (fun _ => rfl) rfl (fun _ _ _ _ h => h) (fun hG => ⟨hG, trivial⟩) fun D ρ w hG hs => L_neq rfl rfl ⟨rfl, hs⟩
        · exact ob [5, 12] [] rfl rfl fun D ρ w hs => L_andC (h' := !decide (((gd l k).kind).tmod 9 = 8)) rfl rfl rfl ⟨rfl, hs⟩
        rintro ρ1 w15 ρ2 hρ hs
        replace hρ : ρ2 = upd (mix [46, 47, 48, 49, 50, 51, 52, 53, 54, 55, 56, 57, 58, 59] ρ1 _) 59 (.bool ((fewA (gd l k)) && (!decide (((gd l k).kind).tmod 9 = 8)))) := hρ
        subst hρ
        refine W_cond (t := (fewA (gd l k)) && (!decide (((gd l k).kind).tmod 9 = 8))) rfl (fun c16 => ?_) (fun c16 => ?_)
        ·
          have c16r := and_r c16
          replace c16 := and_l c16
          replace c16r := not_t c16r
          replace c16r := of_decide_eq_false c16r
          refine W_region ?_
          refine RW_op (L_move (V := .pointer (some ⟨x6, 0, none⟩)) rfl ?_)
          refine RW_op (L_move (V := .slice la l.length lc) rfl ?_)
          refine RW_op (L_move (V := .int .i64 ((k : Nat) : Int)) rfl ?_)
          refine RW_op (L_ixR UD_22 SA_26.1 (Rd.own' hr hs) rfl rfl (by omega) (by rw [List.length_map]; omega) ?_)
          refine RW_op (L_ldRA (j := 0) (vs := acc (gd l k)) k SA_26 (Rd.own' hr hs) (gd_at (by omega)) rfl rfl rfl (by omega) ?_)
          refine RW_op (L_callB2 (α := Int × Dk) (vs := [.pointer (some ⟨x6, 0, none⟩), .agg (acc (gd l k)).toArray]) (V := fun x => .int .i64 x.1) (R := dkR 44 60 5 52 57 x6 m) (R' := fun x => dkR 44 60 5 52 57 x6 x.2) (Lo := fun _ => []) (F := fun x _ => DOk (k + 1) x.2 ∧ x.2.room = m.room) EN_9 rfl rfl hs 2 rfl (fun S0 h0 l0 m0 => kDo_ok _ S0 x6 m k hkm (by omega) h0 l0 hcl (gd l k) (ActOk.own' (hl _ (gd_mem (l := l) (i := k) (by omega))) hs) c16 c16r (act_out (hl _ (gd_mem (l := l) (i := k) (by omega))) m0).1 (act_out (hl _ (gd_mem (l := l) (i := k) (by omega))) m0).2) fun x17 w18 hs hF19 => ?_)
          replace hs : Own w no w18 [blk b1 [.slice a0 t0.length c0, .slice a1 t1.length c1] 24, blk b3 (acc y) 26, dkR 44 60 5 52 57 x6 x17.2] := hs
          refine RW_nil ?_
          refine W_region ?_
          refine RW_op (L_move (V := .int .i64 ((k : Nat) : Int)) rfl ?_)
          refine RW_op (L_add (a := ((k : Nat) : Int)) (b := 1) (c := ((k + 1 : Nat) : Int)) rfl rfl (nat_i64 (by omega) (by omega)) ?_)
          refine RW_op (L_assign (V := .int .i64 ((k + 1 : Nat) : Int)) rfl ?_)
          refine RW_nil ?_
          refine ⟨_, ?_, _, k + 1, x17.2, upd_of (mix_of (ds := [8, 36, 37, 38, 39, 40, 41, 42, 43, 44, 45, 46, 47, 48, 49, 50, 51, 52, 53, 54, 55, 56, 57, 58, 59, 60, 61, 62, 63, 64, 65]) (by repeat (first | exact Agr.refl _ _ | refine Agr.upd ?_ rfl | refine Agr.mix ?_ rfl))) rfl, (by omega), (by omega), hF19.1, (hF19.2.trans hroom), rfl, hs.take 3⟩
          omega
        ·
          refine W_skip ?_
          refine W_region ?_
          refine RW_op (L_move (V := .int .i64 ((k : Nat) : Int)) rfl ?_)
          refine RW_op (L_add (a := ((k : Nat) : Int)) (b := 1) (c := ((k + 1 : Nat) : Int)) rfl rfl (nat_i64 (by omega) (by omega)) ?_)
          refine RW_op (L_assign (V := .int .i64 ((k + 1 : Nat) : Int)) rfl ?_)
          refine RW_nil ?_
          refine ⟨_, ?_, _, k + 1, m, upd_of (mix_of (ds := [8, 36, 37, 38, 39, 40, 41, 42, 43, 44, 45, 46, 47, 48, 49, 50, 51, 52, 53, 54, 55, 56, 57, 58, 59, 60, 61, 62, 63, 64, 65]) (by repeat (first | exact Agr.refl _ _ | refine Agr.upd ?_ rfl | refine Agr.mix ?_ rfl))) rfl, (by omega), (by omega), (hkm.mono (Nat.le_succ _)), hroom, rfl, hs.take 3⟩
          omega
      ·
        refine W_exit ?_
        refine W_seq ?_
        refine W_region ?_
        refine RW_op (L_move (V := .pointer (some ⟨x6, 0, none⟩)) rfl ?_)
        refine RW_op (L_callB2 (α := Int × Dk) (vs := [.pointer (some ⟨x6, 0, none⟩), sv [116, 104, 101, 32, 111, 110, 101, 32, 116, 104, 97, 116, 32, 105, 115, 32, 115, 97, 102, 101]]) (V := fun x => .int .i64 x.1) (R := dkR 44 60 5 52 57 x6 m) (R' := fun x => dkR 44 60 5 52 57 x6 x.2) (Lo := fun _ => []) (F := fun x _ => (DOk (k + 1) x.2 ∧ x.2.room = m.room) ∧ mget sN x.2.nm = none) EN_10 rfl rfl hs 2 rfl (fun S0 h0 l0 m0 => kRemG _ S0 x6 m k hkm (by omega) h0 l0 [116, 104, 101, 32, 111, 110, 101, 32, 116, 104, 97, 116, 32, 105, 115, 32, 115, 97, 102, 101]) fun x20 w21 hs hF22 => ?_)
        replace hs : Own w no w21 [blk b1 [.slice a0 t0.length c0, .slice a1 t1.length c1] 24, blk b3 (acc y) 26, dkR 44 60 5 52 57 x6 x20.2] := hs
        refine RW_nil ?_
        refine W_seq ?_
        refine W_seq ?_
        have hyf := fewA_of c10
        refine W_region ?_
        refine RW_op (L_move (V := .pointer (some ⟨x6, 0, none⟩)) rfl ?_)
        refine RW_op (L_ixArr1 UD_24 S1_23.1 rfl rfl (by decide) (by decide) ?_)
        refine RW_op (L_ld (V := .slice a0 t0.length c0) S1_23 hs 0 rfl rfl rfl ?_)
        refine RW_op (L_callB2 (α := Nat × Dk) (vs := [.pointer (some ⟨x6, 0, none⟩), sv [116, 104, 101, 32, 111, 110, 101, 32, 116, 104, 97, 116, 32, 105, 115, 32, 115, 97, 102, 101], .slice a0 t0.length c0]) (V := fun x => .int .i64 0) (R := dkR 44 60 5 52 57 x6 x20.2) (R' := fun x => dkR 44 60 5 52 57 x6 x.2) (Lo := fun _ => []) (F := fun x _ => Qs ((k + 1) + 1) sN x.1 t0 0 1048576 x.2) EN_11 rfl rfl hs 2 rfl (fun S0 h0 l0 m0 => dsA _ S0 x6 x20.2 (k + 1) hF22.1.1 (by omega) h0 l0 a0 c0 t0 (RdX.own' ht0 hs) (fun q hS => m0 _ hS (RdX.old ht0 (by decide) (by simpa using q))) (by omega) hF22.2 (hF22.1.2.trans hroom)) fun x23 w24 hs hF25 => ?_)
        refine RW_op (L_neq rfl rfl ?_)
        refine RW_op (L_move (V := .bool false) rfl ?_)
        refine RW_gy rfl (L_move (V := .pointer (some ⟨x6, 0, none⟩)) rfl ?_)
        refine RW_gy rfl (L_callB2 (α := Dk) (vs := [.pointer (some ⟨x6, 0, none⟩), sv [116, 104, 101, 32, 111, 110, 101, 32, 116, 104, 97, 116, 32, 105, 115, 32, 115, 97, 102, 101]]) (V := fun x => .int .i64 0) (R := dkR 44 60 5 52 57 x6 x23.2) (R' := fun x => dkR 44 60 5 52 57 x6 x) (Lo := fun _ => []) (F := fun x _ => Qs ((k + 1 + 1) + 1) sN x23.1 (t0) (t0.length) 1048576 x) EN_12 rfl rfl hs 2 rfl (fun S0 h0 l0 m0 => dsB _ S0 x6 x23.2 (k + 1 + 1) x23.1 t0 0 hF25 (by omega) h0 l0 ) fun x26 w27 hs hF28 => ?_)
        refine RW_gy rfl (L_neq rfl rfl ?_)
        refine RW_op (L_pick (V := .bool false) rfl rfl ?_)
        refine RW_op (L_move (V := .bool false) rfl ?_)
        refine RW_gy rfl (L_move (V := .pointer (some ⟨x6, 0, none⟩)) rfl ?_)
        refine RW_gy rfl (L_callB2 (α := Dk) (vs := [.pointer (some ⟨x6, 0, none⟩)]) (V := fun x => .int .i64 0) (R := dkR 44 60 5 52 57 x6 x26) (R' := fun x => dkR 44 60 5 52 57 x6 x) (Lo := fun _ => []) (F := fun x _ => Qt ((k + 1 + 1 + 1) + 1) sN x23.1 (t0) (t0.length) 1048576 x) EN_13 rfl rfl hs 2 rfl (fun S0 h0 l0 m0 => dsC _ S0 x6 x26 (k + 1 + 1 + 1) x23.1 t0 t0.length hF28 (by omega) h0 l0 hcl) fun x29 w30 hs hF31 => ?_)
        refine RW_gy rfl (L_neq rfl rfl ?_)
        refine RW_op (L_pick (V := .bool false) rfl rfl ?_)
        refine RW_op (L_move (V := .bool false) rfl ?_)
        refine RW_gy rfl (L_move (V := .pointer (some ⟨x6, 0, none⟩)) rfl ?_)
        refine RW_gy rfl (L_ixArr1 UD_24 S1_23.1 rfl rfl (by decide) (by decide) ?_)
        refine RW_gy rfl (L_ld (V := .slice a1 t1.length c1) S1_23 hs 0 rfl rfl rfl ?_)
        refine RW_gy rfl (L_callB2 (α := Dk) (vs := [.pointer (some ⟨x6, 0, none⟩), sv [116, 104, 101, 32, 111, 110, 101, 32, 116, 104, 97, 116, 32, 105, 115, 32, 115, 97, 102, 101], .slice a1 t1.length c1]) (V := fun x => .int .i64 0) (R := dkR 44 60 5 52 57 x6 x29) (R' := fun x => dkR 44 60 5 52 57 x6 x) (Lo := fun _ => []) (F := fun x _ => Qt ((k + 1 + 1 + 1 + 1) + 1) sN x23.1 (t0 ++ t1) (t0.length) 1048576 x) EN_11 rfl rfl hs 2 rfl (fun S0 h0 l0 m0 => dsD _ S0 x6 x29 (k + 1 + 1 + 1 + 1) x23.1 t0 t0.length hF31 (by omega) h0 l0 a1 c1 t1 (RdX.own' ht1 hs) (fun q hS => m0 _ hS (RdX.old ht1 (by decide) (by simpa using q))) (by omega)) fun x32 w33 hs hF34 => ?_)
        replace hs : Own w no w33 [blk b1 [.slice a0 t0.length c0, .slice a1 t1.length c1] 24, blk b3 (acc y) 26, dkR 44 60 5 52 57 x6 x32] := hs
        refine RW_gy rfl (L_neq rfl rfl ?_)
        refine RW_op (L_pick (V := .bool false) rfl rfl ?_)
        refine RW_op (L_move (V := .bool false) rfl ?_)
        refine RW_gy rfl (L_move (V := .pointer (some ⟨x6, 0, none⟩)) rfl ?_)
        refine RW_gy rfl (L_ixArr1 UD_24 S1_23.1 rfl rfl (by decide) (by decide) ?_)
        refine RW_gy rfl (L_ld (V := .slice a1 t1.length c1) S1_23 hs 0 rfl rfl rfl ?_)
        refine RW_gy rfl (L_callB2 (α := Dk) (vs := [.pointer (some ⟨x6, 0, none⟩), sv [97, 110, 111, 116, 104, 101, 114, 32, 111, 110, 101], .slice a1 t1.length c1]) (V := fun x => .int .i64 0) (R := dkR 44 60 5 52 57 x6 x32) (R' := fun x => dkR 44 60 5 52 57 x6 x) (Lo := fun _ => []) (F := fun x _ => Qt ((k + 1 + 1 + 1 + 1 + 1) + 1) sN x23.1 ((t0 ++ t1)) (t0.length) 1048576 x) EN_11 rfl rfl hs 2 rfl (fun S0 h0 l0 m0 => dsE _ S0 x6 x32 (k + 1 + 1 + 1 + 1 + 1) x23.1 (t0 ++ t1) t0.length hF34 (by omega) h0 l0 a1 c1 t1 (RdX.own' ht1 hs) (fun q hS => m0 _ hS (RdX.old ht1 (by decide) (by simpa using q))) (by omega)) fun x35 w36 hs hF37 => ?_)
        refine RW_gy rfl (L_neq rfl rfl ?_)
        refine RW_op (L_pick (V := .bool false) rfl rfl ?_)
        refine RW_nil ?_
        refine W_condF rfl ?_
        refine W_skip ?_
        refine W_seq ?_
        refine W_seq ?_
        refine W_region ?_
        refine RW_op (L_move (V := .pointer (some ⟨x6, 0, none⟩)) rfl ?_)
        refine RW_op (L_fieldAddr FA_26_4 rfl ?_)
        refine RW_op (L_ld (V := .int .u8 y.chg) S1_5 hs 1 rfl rfl rfl ?_)
        refine RW_op (L_fieldAddr FA_26_5 rfl ?_)
        refine RW_op (L_ld (V := .slice y.ca y.cuts.length y.cc) S1_23 hs 1 rfl rfl rfl ?_)
        refine RW_op (L_callB2 (α := Nat × Dk) (vs := [.pointer (some ⟨x6, 0, none⟩), .int .u8 y.chg, .slice y.ca y.cuts.length y.cc]) (V := fun x => .int .i64 0) (R := dkR 44 60 5 52 57 x6 x35) (R' := fun x => dkR 44 60 5 52 57 x6 x.2) (Lo := fun _ => []) (F := fun x _ => (t0.length ≤ x.1 ∧ x.1 ≤ ((t0 ++ t1)).length ∧ Qs ((k + 1 + 1 + 1 + 1 + 1 + 1) + 1) sN x23.1 (((t0 ++ t1)).take x.1) x.1 1048576 x.2)) EN_14 rfl rfl hs 2 rfl (fun S0 h0 l0 m0 => dsF _ S0 x6 x35 (k + 1 + 1 + 1 + 1 + 1 + 1) x23.1 (t0 ++ t1) t0.length hF37 (by omega) h0 l0 hcl y.chg hy.chg.1 hy.chg.2 y.ca y.cc y.cuts hy.cuts (hy.own' hs).rc (act_out hy m0).2 hyf.2.2.2) fun x38 w39 hs hF40 => ?_)
        refine RW_op (L_neq rfl rfl ?_)
        refine RW_nil ?_
        refine W_condF rfl ?_
        refine W_skip ?_
        refine W_seq ?_
        refine W_region ?_
        refine RW_op (L_move (V := .pointer (some ⟨x6, 0, none⟩)) rfl ?_)
        refine RW_op (L_callX (vs := [.pointer (some ⟨x6, 0, none⟩), sv [116, 104, 101, 32, 111, 110, 101, 32, 116, 104, 97, 116, 32, 105, 115, 32, 115, 97, 102, 101]]) (V := fun x : Option Addr × Nat => .tuple #[.slice x.1 ((t0 ++ t1).take x38.1 : List Int).length x.2, .int .i64 0]) (Lo := fun x => [row (.slice x.1 ((t0 ++ t1).take x38.1 : List Int).length x.2) (((t0 ++ t1).take x38.1 : List Int).map (ic .u8)) 5 1]) (F := fun _ _ => True) EN_15 rfl rfl ?hc hs fun x41 w42 hs _ => ?_)
        case hc => exact (kReadDS _ x6 x38.2 (hs.dkf 2 rfl) [116, 104, 101, 32, 111, 110, 101, 32, 116, 104, 97, 116, 32, 105, 115, 32, 115, 97, 102, 101] x23.1 ((t0 ++ t1).take x38.1 : List Int) x38.1 hF40.2.2.get hF40.2.2.at_ (by rw [List.length_take, List.length_append]; omega))
        refine RW_op (L_move (V := .tuple #[.slice x41.1 (((t0 ++ t1).take x38.1).length) x41.2, .int .i64 0]) rfl ?_)
        refine RW_op (L_extract (V := .slice x41.1 (((t0 ++ t1).take x38.1).length) x41.2) rfl rfl ?_)
        refine RW_op (L_extract (V := .int .i64 0) rfl rfl ?_)
        refine RW_op (L_assign (V := .slice x41.1 (((t0 ++ t1).take x38.1).length) x41.2) rfl ?_)
        refine RW_op (L_assign (V := .int .i64 0) rfl ?_)
        refine RW_nil ?_
        refine W_seq ?_
        have hn1 := hF40.1
        have hn2 := hF40.2.1
        have hn3 : (t0 ++ t1).length = t0.length + t1.length := List.length_append
        have hn4 : ((t0 ++ t1).take x38.1).length = x38.1 := by rw [List.length_take]; omega
        have hn5 : (sOf t0 ++ sOf t1).length = t0.length + t1.length := by rw [List.length_append, sOf_len, sOf_len]
        have hst := sOf_take hn2
        refine W_region ?_
        refine RW_op (L_ixArr1 UD_24 S1_23.1 rfl rfl (by decide) (by decide) ?_)
        refine RW_op (L_ld (V := .slice a0 t0.length c0) S1_23 hs 0 rfl rfl rfl ?_)
        refine RW_op (L_convX UDR_23 UDR_5 UDR_9 (RdX.own' ht0 hs) rfl ?_)
        refine RW_op (L_ixArr1 UD_24 S1_23.1 rfl rfl (by decide) (by decide) ?_)
        refine RW_op (L_ld (V := .slice a1 t1.length c1) S1_23 hs 0 rfl rfl rfl ?_)
        refine RW_op (L_convX UDR_23 UDR_5 UDR_9 (RdX.own' ht1 hs) rfl ?_)
        refine RW_op (L_addS (by (simp only [sOf_len]; omega)) rfl rfl ?_)
        refine RW_op (L_assign (V := sv ((sOf t0) ++ (sOf t1))) rfl ?_)
        refine RW_nil ?_
        refine W_seq ?_
        refine W_seq ?_
        refine W_regD HM [some 116, some 117, some 118, some 119, some 120, some 121, some 122, some 123, some 124, some 125, some 126, some 127, some 128, some 129, some 130, some 131, some 132, some 133, some 134, some 135, some 136, some 137, some 138, some 139, some 140, some 141] [] [0, 1, 3, 7, 15, 7, 39, 103, 255, 511, 1023, 2047, 4095, 2047, 10239, 32767, 65535, 131071, 262143, 524287, 262143, 262143, 2359295, 7602175, 16777215, 33554431] [pv (.int .i64 0), pv (.bool false), pv (.bool false), pv (.slice x41.1 (((t0 ++ t1).take x38.1).length) x41.2), pv (.int .i64 ((((t0 ++ t1).take x38.1).length : Nat) : Int)), pv (.pointer (some ⟨b1, 0 + (0 : Int).toNat, none⟩)), pv (.slice a0 t0.length c0), pv (.int .i64 ((t0.length : Nat) : Int)), pv (.bool (decide (((((t0 ++ t1).take x38.1).length : Nat) : Int) < ((t0.length : Nat) : Int)))), pv (.bool (decide (((((t0 ++ t1).take x38.1).length : Nat) : Int) < ((t0.length : Nat) : Int)))), pv (.bool (decide (((((t0 ++ t1).take x38.1).length : Nat) : Int) < ((t0.length : Nat) : Int)))), pg ((decide (((((t0 ++ t1).take x38.1).length : Nat) : Int) < ((t0.length : Nat) : Int))) == false) (.slice x41.1 (((t0 ++ t1).take x38.1).length) x41.2), pg ((decide (((((t0 ++ t1).take x38.1).length : Nat) : Int) < ((t0.length : Nat) : Int))) == false) (.int .i64 ((((t0 ++ t1).take x38.1).length : Nat) : Int)), pg ((decide (((((t0 ++ t1).take x38.1).length : Nat) : Int) < ((t0.length : Nat) : Int))) == false) (sv ((sOf t0) ++ (sOf t1))), pg ((decide (((((t0 ++ t1).take x38.1).length : Nat) : Int) < ((t0.length : Nat) : Int))) == false) (.int .i64 ((((sOf t0) ++ (sOf t1)).length : Nat) : Int)), pg ((decide (((((t0 ++ t1).take x38.1).length : Nat) : Int) < ((t0.length : Nat) : Int))) == false) (.bool (decide (((((sOf t0) ++ (sOf t1)).length : Nat) : Int) < ((((t0 ++ t1).take x38.1).length : Nat) : Int)))), pv (.bool ((decide (((((t0 ++ t1).take x38.1).length : Nat) : Int) < ((t0.length : Nat) : Int))) || (decide (((((sOf t0) ++ (sOf t1)).length : Nat) : Int) < ((((t0 ++ t1).take x38.1).length : Nat) : Int))))), pv (.bool ((decide (((((t0 ++ t1).take x38.1).length : Nat) : Int) < ((t0.length : Nat) : Int))) || (decide (((((sOf t0) ++ (sOf t1)).length : Nat) : Int) < ((((t0 ++ t1).take x38.1).length : Nat) : Int))))), pg (((decide (((((t0 ++ t1).take x38.1).length : Nat) : Int) < ((t0.length : Nat) : Int))) || (decide (((((sOf t0) ++ (sOf t1)).length : Nat) : Int) < ((((t0 ++ t1).take x38.1).length : Nat) : Int)))) == false) (.slice x41.1 (((t0 ++ t1).take x38.1).length) x41.2), pg (((decide (((((t0 ++ t1).take x38.1).length : Nat) : Int) < ((t0.length : Nat) : Int))) || (decide (((((sOf t0) ++ (sOf t1)).length : Nat) : Int) < ((((t0 ++ t1).take x38.1).length : Nat) : Int)))) == false) (sv (sOf ((t0 ++ t1).take x38.1))), pg (((decide (((((t0 ++ t1).take x38.1).length : Nat) : Int) < ((t0.length : Nat) : Int))) || (decide (((((sOf t0) ++ (sOf t1)).length : Nat) : Int) < ((((t0 ++ t1).take x38.1).length : Nat) : Int)))) == false) (sv ((sOf t0) ++ (sOf t1))), pg (((decide (((((t0 ++ t1).take x38.1).length : Nat) : Int) < ((t0.length : Nat) : Int))) || (decide (((((sOf t0) ++ (sOf t1)).length : Nat) : Int) < ((((t0 ++ t1).take x38.1).length : Nat) : Int)))) == false) (.slice x41.1 (((t0 ++ t1).take x38.1).length) x41.2), pg (((decide (((((t0 ++ t1).take x38.1).length : Nat) : Int) < ((t0.length : Nat) : Int))) || (decide (((((sOf t0) ++ (sOf t1)).length : Nat) : Int) < ((((t0 ++ t1).take x38.1).length : Nat) : Int)))) == false) (.int .i64 ((((t0 ++ t1).take x38.1).length : Nat) : Int)), pg (((decide (((((t0 ++ t1).take x38.1).length : Nat) : Int) < ((t0.length : Nat) : Int))) || (decide (((((sOf t0) ++ (sOf t1)).length : Nat) : Int) < ((((t0 ++ t1).take x38.1).length : Nat) : Int)))) == false) (sv (((sOf t0) ++ (sOf t1)).take (((t0 ++ t1).take x38.1).length))), pg (((decide (((((t0 ++ t1).take x38.1).length : Nat) : Int) < ((t0.length : Nat) : Int))) || (decide (((((sOf t0) ++ (sOf t1)).length : Nat) : Int) < ((((t0 ++ t1).take x38.1).length : Nat) : Int)))) == false) (.bool (!decide (sOf ((t0 ++ t1).take x38.1) = ((sOf t0) ++ (sOf t1)).take (((t0 ++ t1).take x38.1).length)))), pv (.bool (((decide (((((t0 ++ t1).take x38.1).length : Nat) : Int) < ((t0.length : Nat) : Int))) || (decide (((((sOf t0) ++ (sOf t1)).length : Nat) : Int) < ((((t0 ++ t1).take x38.1).length : Nat) : Int)))) || (!decide (sOf ((t0 ++ t1).take x38.1) = ((sOf t0) ++ (sOf t1)).take (((t0 ++ t1).take x38.1).length)))))] (fun _ _ => _) [25] (by kernel_rfl) hs ⟨?_, ?_, ?_, ?_, ?_, ?_, ?_, ?_, ?_, ?_, ?_, ?_, ?_, ?_, ?_, ?_, ?_, ?_, ?_, ?_, ?_, ?_, ?_, ?_, ?_, ?_, trivial⟩ ?_
        · exact ob [] [] rfl rfl fun D ρ w hs => L_move (V := .int .i64 0) rfl ⟨rfl, hs⟩
        · exact ob [0] [] rfl rfl fun D ρ w hs => L_neq rfl rfl ⟨rfl, hs⟩
        · exact ob [1] [] rfl rfl fun D ρ w hs => L_move (V := .bool false) rfl ⟨rfl, hs⟩
        · exact obg [2] [] false rfl (fun _ => rfl) rfl (fun _ _ _ h => nomatch h) fun D ρ w _ hs => L_move (V := .slice x41.1 (((t0 ++ t1).take x38.1).length) x41.2) rfl ⟨rfl, hs⟩
        · exact obg [2, 3] [] false rfl (fun _ => rfl) rfl (fun _ _ _ h => nomatch h) fun D ρ w _ hs => L_lenR (n := ((t0 ++ t1).take x38.1).length) UD_23 (hs.rd 3 rfl) (by simp) rfl ⟨rfl, hs⟩
        · exact obg [2] [] false rfl (fun _ => rfl) rfl (fun _ _ _ h => nomatch h) fun D ρ w _ hs => L_ixArr1 UD_24 S1_23.1 rfl rfl (by decide) (by decide) ⟨rfl, hs⟩
        · exact obg [2, 5] [] false rfl (fun _ => rfl) rfl (fun _ _ _ h => nomatch h) fun D ρ w _ hs => L_ld (V := .slice a0 t0.length c0) S1_23 hs 0 rfl rfl rfl ⟨rfl, hs⟩
        · exact obg [2, 6] [] false rfl (fun _ => rfl) rfl (fun _ _ _ h => nomatch h) fun D ρ w _ hs => L_lenX (n := t0.length) UD_23 (RdX.own' ht0 hs) (by simp) rfl ⟨rfl, hs⟩
        · exact obg [2, 4, 7] [] false rfl (fun _ => rfl) rfl (fun _ _ _ h => nomatch h) fun D ρ w _ hs => L_lss rfl rfl ⟨rfl, hs⟩
        · exact ob [2, 8] [] rfl rfl fun D ρ w hs => L_pick (V := .bool (decide (((((t0 ++ t1).take x38.1).length : Nat) : Int) < ((t0.length : Nat) : Int)))) rfl rfl ⟨rfl, hs⟩
        · exact ob [9] [] rfl rfl fun D ρ w hs => L_move (V := .bool (decide (((((t0 ++ t1).take x38.1).length : Nat) : Int) < ((t0.length : Nat) : Int)))) rfl ⟨rfl, hs⟩
        · exact obg [10] [] (decide (((((t0 ++ t1).take x38.1).length : Nat) : Int) < ((t0.length : Nat) : Int))) rfl (fun _ => rfl) rfl (fun _ _ _ _ h => h) fun D ρ w hG hs => L_move (V := .slice x41.1 (((t0 ++ t1).take x38.1).length) x41.2) rfl ⟨rfl, hs⟩
        · exact obgy [10, 11] [] [11] (decide (((((t0 ++ t1).take x38.1).length : Nat) : Int) < ((t0.length : Nat) : Int))) rfl (fun _ => rfl) rfl (fun _ _ _ _ h => h) (fun hG => ⟨hG, trivial⟩) fun D ρ w hG hs => L_lenR (n := ((t0 ++ t1).take x38.1).length) UD_23 (hs.rd 3 rfl) (by simp) rfl ⟨rfl, hs⟩
        · exact obg [10] [] (decide (((((t0 ++ t1).take x38.1).length : Nat) : Int) < ((t0.length : Nat) : Int))) rfl (fun _ => rfl) rfl (fun _ _ _ _ h => h) fun D ρ w hG hs => L_move (V := sv ((sOf t0) ++ (sOf t1))) rfl ⟨rfl, hs⟩
        · exact obgy [10, 13] [] [13] (decide (((((t0 ++ t1).take x38.1).length : Nat) : Int) < ((t0.length : Nat) : Int))) rfl (fun _ => rfl) rfl (fun _ _ _ _ h => h) (fun hG => ⟨hG, trivial⟩) fun D ρ w hG hs => L_lenS' UDR_9 rfl ⟨rfl, hs⟩
        · exact obgy [10, 12, 14] [] [12, 14] (decide (((((t0 ++ t1).take x38.1).length : Nat) : Int) < ((t0.length : Nat) : Int))) rfl (fun _ => rfl) rfl (fun _ _ _ _ h => h) (fun hG => ⟨hG, hG, trivial⟩) fun D ρ w hG hs => L_gtr rfl rfl ⟨rfl, hs⟩
        · exact ob [10, 15] [] rfl rfl fun D ρ w hs => L_orC (h' := decide (((((sOf t0) ++ (sOf t1)).length : Nat) : Int) < ((((t0 ++ t1).take x38.1).length : Nat) : Int))) rfl rfl rfl ⟨rfl, hs⟩
        · exact ob [16] [] rfl rfl fun D ρ w hs => L_move (V := .bool ((decide (((((t0 ++ t1).take x38.1).length : Nat) : Int) < ((t0.length : Nat) : Int))) || (decide (((((sOf t0) ++ (sOf t1)).length : Nat) : Int) < ((((t0 ++ t1).take x38.1).length : Nat) : Int))))) rfl ⟨rfl, hs⟩
        · exact obg [17] [] ((decide (((((t0 ++ t1).take x38.1).length : Nat) : Int) < ((t0.length : Nat) : Int))) || (decide (((((sOf t0) ++ (sOf t1)).length : Nat) : Int) < ((((t0 ++ t1).take x38.1).length : Nat) : Int)))) rfl (fun _ => rfl) rfl (fun _ _ _ _ h => h) fun D ρ w hG hs => L_move (V := .slice x41.1 (((t0 ++ t1).take x38.1).length) x41.2) rfl ⟨rfl, hs⟩
        · exact obgy [17, 18] [] [18] ((decide (((((t0 ++ t1).take x38.1).length : Nat) : Int) < ((t0.length : Nat) : Int))) || (decide (((((sOf t0) ++ (sOf t1)).length : Nat) : Int) < ((((t0 ++ t1).take x38.1).length : Nat) : Int)))) rfl (fun _ => rfl) rfl (fun _ _ _ _ h => h) (fun hG => ⟨hG, trivial⟩) fun D ρ w hG hs => L_convS UDR_23 UDR_5 UDR_9 (hs.rd 3 rfl) rfl ⟨rfl, hs⟩
        · exact obg [17] [] ((decide (((((t0 ++ t1).take x38.1).length : Nat) : Int) < ((t0.length : Nat) : Int))) || (decide (((((sOf t0) ++ (sOf t1)).length : Nat) : Int) < ((((t0 ++ t1).take x38.1).length : Nat) : Int)))) rfl (fun _ => rfl) rfl (fun _ _ _ _ h => h) fun D ρ w hG hs => L_move (V := sv ((sOf t0) ++ (sOf t1))) rfl ⟨rfl, hs⟩
        · exact obg [17] [] ((decide (((((t0 ++ t1).take x38.1).length : Nat) : Int) < ((t0.length : Nat) : Int))) || (decide (((((sOf t0) ++ (sOf t1)).length : Nat) : Int) < ((((t0 ++ t1).take x38.1).length : Nat) : Int)))) rfl (fun _ => rfl) rfl (fun _ _ _ _ h => h) fun D ρ w hG hs => L_move (V := .slice x41.1 (((t0 ++ t1).take x38.1).length) x41.2) rfl ⟨rfl, hs⟩
        · exact obgy [17, 21] [] [21] ((decide (((((t0 ++ t1).take x38.1).length : Nat) : Int) < ((t0.length : Nat) : Int))) || (decide (((((sOf t0) ++ (sOf t1)).length : Nat) : Int) < ((((t0 ++ t1).take x38.1).length : Nat) : Int)))) rfl (fun _ => rfl) rfl (fun _ _ _ _ h => h) (fun hG => ⟨hG, trivial⟩) fun D ρ w hG hs => L_lenR (n := ((t0 ++ t1).take x38.1).length) UD_23 (hs.rd 3 rfl) (by simp) rfl ⟨rfl, hs⟩
        · exact obgy [17, 20, 22] [] [20, 22] ((decide (((((t0 ++ t1).take x38.1).length : Nat) : Int) < ((t0.length : Nat) : Int))) || (decide (((((sOf t0) ++ (sOf t1)).length : Nat) : Int) < ((((t0 ++ t1).take x38.1).length : Nat) : Int)))) rfl (fun _ => rfl) rfl (fun _ _ _ _ h => h) (fun hG => ⟨hG, hG, trivial⟩) fun D ρ w hG hs => L_slS (n := ((t0 ++ t1).take x38.1).length) UDR_9 rfl rfl (by (rw [hn4, hn5]; omega)) ⟨rfl, hs⟩
        · exact obgy [17, 19, 23] [] [19, 23] ((decide (((((t0 ++ t1).take x38.1).length : Nat) : Int) < ((t0.length : Nat) : Int))) || (decide (((((sOf t0) ++ (sOf t1)).length : Nat) : Int) < ((((t0 ++ t1).take x38.1).length : Nat) : Int)))) rfl (fun _ => rfl) rfl (fun _ _ _ _ h => h) (fun hG => ⟨hG, hG, trivial⟩) fun D ρ w hG hs => L_neS rfl rfl ⟨rfl, hs⟩
        · exact ob [17, 24] [] rfl rfl fun D ρ w hs => L_orC (h' := !decide (sOf ((t0 ++ t1).take x38.1) = ((sOf t0) ++ (sOf t1)).take (((t0 ++ t1).take x38.1).length))) rfl rfl rfl ⟨rfl, hs⟩
        rintro ρ1 w43 ρ2 hρ hs
        replace hρ : ρ2 = upd (mix [116, 117, 118, 119, 120, 121, 122, 123, 124, 125, 126, 127, 128, 129, 130, 131, 132, 133, 134, 135, 136, 137, 138, 139, 140, 141] ρ1 _) 141 (.bool (((decide (((((t0 ++ t1).take x38.1).length : Nat) : Int) < ((t0.length : Nat) : Int))) || (decide (((((sOf t0) ++ (sOf t1)).length : Nat) : Int) < ((((t0 ++ t1).take x38.1).length : Nat) : Int)))) || (!decide (sOf ((t0 ++ t1).take x38.1) = ((sOf t0) ++ (sOf t1)).take (((t0 ++ t1).take x38.1).length))))) := hρ
        subst hρ
        refine W_cond (t := ((decide (((((t0 ++ t1).take x38.1).length : Nat) : Int) < ((t0.length : Nat) : Int))) || (decide (((((sOf t0) ++ (sOf t1)).length : Nat) : Int) < ((((t0 ++ t1).take x38.1).length : Nat) : Int)))) || (!decide (sOf ((t0 ++ t1).take x38.1) = ((sOf t0) ++ (sOf t1)).take (((t0 ++ t1).take x38.1).length)))) rfl (fun c44 => ?_) (fun c44 => ?_)
        ·
          refine W_seq ?_
          refine W_region ?_
          refine RW_op (L_assign (V := .bool false) rfl ?_)
          refine RW_nil ?_
          refine W_ret ?_
          refine ⟨_, res_one (V := .bool false) Try.results3 rfl, ?_⟩
          refine ⟨congrArg Ending.returned ?_, hs.take 0⟩
          exfalso
          have hq := c44
          rw [hst] at hq
          simp only [Bool.or_eq_true, decide_eq_true_eq, Bool.not_eq_true', decide_eq_false_iff_not, hn4, hn5, not_true_eq_false, or_false] at hq
          omega
        ·
          have c44r := or_r c44
          replace c44 := or_l c44
          have c44rr := or_r c44
          replace c44 := or_l c44
          replace c44 := of_decide_eq_false c44
          replace c44rr := of_decide_eq_false c44rr
          replace c44r := not_f c44r
          replace c44r := of_decide_eq_true c44r
          refine W_skip ?_
          refine W_seq ?_
          refine W_region ?_
          refine RW_op (L_move (V := .pointer (some ⟨x6, 0, none⟩)) rfl ?_)
          refine RW_op (L_callB2 (α := Nat) (vs := [.pointer (some ⟨x6, 0, none⟩), .int .u8 0, .slice none 0 0]) (V := fun x => .int .i64 0) (R := dkR 44 60 5 52 57 x6 x38.2) (R' := fun x => dkR 44 60 5 52 57 x6 (crD x38.2 x [])) (Lo := fun _ => []) (F := fun x _ => x ≤ (x38.2).ch.length) EN_14 rfl rfl hs 2 rfl (fun S0 h0 l0 m0 => kCrashG _ S0 x6 x38.2 (k + 1 + 1 + 1 + 1 + 1 + 1 + 1) hF40.2.2.ok (by omega) h0 l0 hcl 0 (by decide) (by decide) none 0 [] (by simp) (.inl (Rd.nil _ 1)) (fun h => absurd rfl h) (by decide)) fun x46 w45 hs _ => ?_)
          replace hs : Own w no w45 [blk b1 [.slice a0 t0.length c0, .slice a1 t1.length c1] 24, blk b3 (acc y) 26, dkR 44 60 5 52 57 x6 (crD x38.2 x46 []), row (.slice x41.1 (((t0 ++ t1).take x38.1).length) x41.2) (((t0 ++ t1).take x38.1).map (ic .u8)) 5 1] := hs
          refine RW_op (L_eql rfl rfl ?_)
          refine RW_op (L_assign (V := .bool true) rfl ?_)
          refine RW_nil ?_
          refine W_ret ?_
          refine ⟨_, res_one (V := .bool true) Try.results3 rfl, ?_⟩
          refine ⟨congrArg Ending.returned ?_, hs.take 0⟩
          rfl
end Tt
end Go.Proofs
namespace Go.Vx
open Go.RowKit Go.ChangeShapes Go.WideShapes Go.ChangeAt
def OpenM (P : Program) (t : TypeId) {α : Type} (en : α → List Value) (ok : World → α → Prop) : Prop :=
  ∀ (H : Type) (enc : TypeId × Value → H) (w : World) (base : Nat) (held : Bool) (fuel : Nat) (cs : List Value) (x : DataW H × List MemPlace), DataW.trod enc P w base (fun _ => true) held fuel t cs = some x → ∃ a, ok w a ∧ cs = en a
structure Bts where
  a : Option Addr
  c : Nat
  l : List Int
def btc (x : Bts) : List Value := [.slice x.a x.l.length x.c]
def BtsOk (w : World) (x : Bts) : Prop := RdX w (.slice x.a x.l.length x.c) 1 (x.l.map (ic .u8)) ∧ ∀ y ∈ x.l, 0 ≤ y ∧ y < 256
theorem O_bts {P : Program} {t e : TypeId} (ht : P.underlying t = some (.slice e)) (he : P.underlying e = some (.int .u8)) (hc : P.cellsOf e = 1) : OpenM P t btc BtsOk := by
  intro H enc w base held fuel cs x h
  rcases Go.Deep.open_slice ht h with ⟨rfl, _⟩ | ⟨ad, len, cap, m, n, D, Pl, rfl, hb, hl, hm, hmm, hx, hall⟩
  · exact ⟨⟨none, 0, []⟩, ⟨.inl (Rd.nil w 1), by simp⟩, rfl⟩
  · simp only [if_true] at hmm
    subst hmm
    by_cases h0 : m = 0
    · subst h0
      have : len = 0 := by omega
      subst this
      exact ⟨⟨some ad, 0, []⟩, ⟨.inr ⟨rfl, ad, rfl⟩, by simp⟩, rfl⟩
    · have each : ∀ i : Fin m, ∃ y : Int, (0 ≤ y ∧ y < 256) ∧ w.cell? ((ad.add (i.val * 1)).add 0) = some (.int .u8 y) := by
        intro i
        obtain ⟨cs', h1, h2⟩ := hall i.val i.isLt
        rw [hc] at h1
        obtain ⟨_, hlen, h3⟩ := World.cells?_some h1
        obtain ⟨y, e1, _, hy⟩ := DataW.trod_int he h2
        have := h3 0 (by omega)
        rw [e1] at this
        exact ⟨y, inK_u8 hy, this⟩
      obtain ⟨f, hf⟩ := Classical.axiomOfChoice each
      obtain ⟨b, o, sp⟩ := ad
      have hsp : sp = none := by
        have := (hf ⟨0, by omega⟩).2
        have h5 := World.cell?_spot this
        simpa [Addr.add] using h5
      subst hsp
      refine ⟨⟨some ⟨b, o, none⟩, m, (List.ofFn f).take len⟩, ⟨.inl ?_, fun y hy => ?_⟩, ?_⟩
      · have hll : ((List.ofFn f).take len).length = len := by rw [List.length_take, List.length_ofFn]; omega
        refine ⟨len_map (enc := ic .u8) (fun _ => rfl) _, by rw [List.length_map, hll]; simp only [maxLen] at hm; omega, .inr ⟨b, o, m, by rw [List.length_map]⟩, fun i j l u hi hj => ?_, by rw [List.length_map, hll]; exact hl⟩
        have hi' := lt_of_get hi
        rw [List.length_map, hll] at hi'
        have e1 : l = ic .u8 (f ⟨i, by omega⟩) := by
          rw [List.getElem?_map, List.getElem?_take, if_pos hi', List.getElem?_ofFn] at hi
          simp [show i < m by omega] at hi
          exact hi.symm
        subst e1
        have hj0 : j = 0 := by have := lt_of_get hj; simp [ic] at this; omega
        subst hj0
        simp [ic] at hj; subst hj
        have h4 := (hf ⟨i, by omega⟩).2
        rw [add_eq, add_eq] at h4
        exact h4
      · obtain ⟨i, rfl⟩ := List.mem_ofFn.1 (List.mem_of_mem_take hy); exact (hf i).1
      · show _ = [Value.slice _ _ _]
        rw [List.length_take, List.length_ofFn, Nat.min_eq_left hl]
theorem O_act {P : Program} {t tb : TypeId} {f0 f1 f2 f3 f4 f5 f6 : Field} (ht : P.underlying t = some (.struct #[f0, f1, f2, f3, f4, f5, f6]))
    (hoff : [f0.offset, f1.offset, f2.offset, f3.offset, f4.offset, f5.offset, f6.offset] = [0, 1, 2, 3, 4, 5, 6]) (ht3 : f3.type = tb) (ht5 : f5.type = tb) (hB : OpenM P tb btc BtsOk)
    (u0 : P.underlying f0.type = some (.int .u8)) (u1 : P.underlying f1.type = some .string) (u2 : P.underlying f2.type = some .string) (u4 : P.underlying f4.type = some (.int .u8)) (u6 : P.underlying f6.type = some (.int .i64))
    (hc : [P.cellsOf f0.type, P.cellsOf f1.type, P.cellsOf f2.type, P.cellsOf f3.type, P.cellsOf f4.type, P.cellsOf f5.type, P.cellsOf f6.type] = [1, 1, 1, 1, 1, 1, 1]) (hct : P.cellsOf t = 7) : OpenM P t acc ActOk := by
  intro H enc w base held fuel cs x h
  obtain ⟨xs, m, _, _, hl, hxl, hx⟩ := DataW.trod_struct ht h
  rw [hct] at hl
  have g0 := hx 0 f0 rfl
  have g1 := hx 1 f1 rfl
  have g2 := hx 2 f2 rfl
  have g3 := hx 3 f3 rfl
  have g4 := hx 4 f4 rfl
  have g5 := hx 5 f5 rfl
  have g6 := hx 6 f6 rfl
  have hx2 : xs.length = 7 := by simpa using hxl
  simp only [List.cons.injEq, and_true] at hoff hc
  obtain ⟨o0, o1, o2, o3, o4, o5, o6⟩ := hoff
  obtain ⟨c0, c1, c2, c3, c4, c5, c6⟩ := hc
  rw [List.getElem?_eq_getElem (by omega)] at g0 g1 g2 g3 g4 g5 g6
  rw [o0, c0] at g0
  rw [o1, c1] at g1
  rw [o2, c2] at g2
  rw [o3, c3, ht3] at g3
  rw [o4, c4] at g4
  rw [o5, c5, ht5] at g5
  rw [o6, c6] at g6
  obtain ⟨a0, e0, _, h0⟩ := DataW.trod_int u0 g0
  obtain ⟨a1, e1, _, _⟩ := DataW.trod_string u1 g1
  obtain ⟨a2, e2, _, _⟩ := DataW.trod_string u2 g2
  obtain ⟨a3, ⟨h3, h3'⟩, e3⟩ := hB _ _ _ _ _ _ _ _ g3
  obtain ⟨a4, e4, _, h4⟩ := DataW.trod_int u4 g4
  obtain ⟨a5, ⟨h5, h5'⟩, e5⟩ := hB _ _ _ _ _ _ _ _ g5
  obtain ⟨a6, e6, _, h6⟩ := DataW.trod_int u6 g6
  have h6' : -9223372036854775808 ≤ a6 ∧ a6 ≤ 9223372036854775807 := by
    simp [Lit.wf, IntKind.min, IntKind.max, IntKind.signed, IntKind.bits] at h6
    omega
  refine ⟨⟨a0, a1.data.toList, a2.data.toList, a3.a, a3.c, a3.l, a4, a5.a, a5.c, a5.l, a6⟩, ⟨inK_u8 h0, h3, h3', inK_u8 h4, h5, h5', h6'⟩, ?_⟩
  match cs, hl with
  | [x0, x1, x2, x3, x4, x5, x6], _ =>
    simp [btc] at e0 e1 e2 e3 e4 e5 e6
    rw [e0, e1, e2, e3, e4, e5, e6]
    simp [acc]
theorem open_rowsM {P : Program} {t e k : TypeId} {α : Type} {en : α → List Value} {ok : World → α → Prop} (ht : P.underlying t = some (.slice e)) (hO : OpenM P e en ok) (hk : ∀ x, (en x).length = k) (hc : P.cellsOf e = k) {H : Type} {enc : TypeId × Value → H} {w : World} {r : Reach} {b0 base : Nat} {held : Bool} {v : Value} {d : DataW H} {ps : List MemPlace}
    (hv : Value.okWide P w r b0 t v) (h : DataW.Trod enc P w base (fun _ => true) held t v d ps) : ∃ a c, ∃ l : List α, v = .slice a l.length c ∧ (∀ x ∈ l, ok w x) ∧ Rd w (.slice a l.length c) k (l.map en) := by
  have hv0 := hv
  obtain ⟨a, len, cap, rfl⟩ := okWide_slice ht hv
  obtain ⟨fuel, h⟩ := h
  have h' : DataW.trod enc P w base (fun _ => true) held fuel t [.slice a len cap] = some (d, ps) := h
  rcases Go.Deep.open_slice ht h' with ⟨hcs, _⟩ | ⟨ad, len', cap', m, n, D, Pl, hcs, hb, hl, hm, hmm, hx, hall⟩
  · simp only [List.cons.injEq, Value.slice.injEq, and_true] at hcs
    obtain ⟨rfl, rfl, rfl⟩ := hcs
    exact ⟨none, 0, [], rfl, by simp, Rd.nil w k⟩
  · simp only [List.cons.injEq, Value.slice.injEq, and_true] at hcs
    obtain ⟨rfl, rfl, rfl⟩ := hcs
    have hrm : len ≤ cap := by
      have hv1 := hv0
      simp only [Value.okWide, ht, Cell.okWide, Cell.ok] at hv1
      exact hv1.1
    have hsp : ad.spot = none := by
      simp only [Value.okWide, ht, Cell.okWide, Cell.ok] at hv0
      exact hv0.2.2.2.1
    have hle : len ≤ m := by rw [hmm]; split <;> omega
    have each : ∀ i : Fin len, ∃ x : α, ok w x ∧ ∀ j, j < k → w.cell? ((ad.add (i.val * k)).add j) = (en x)[j]? := by
      intro i
      obtain ⟨cs', h1, h2⟩ := hall i.val (by omega)
      rw [hc] at h1
      obtain ⟨_, _, h3⟩ := World.cells?_some h1
      obtain ⟨x, hox, rfl⟩ := hO _ _ _ _ _ _ _ _ h2
      exact ⟨x, hox, h3⟩
    obtain ⟨f, hf⟩ := Classical.axiomOfChoice each
    refine ⟨some ad, cap, List.ofFn f, by rw [List.length_ofFn], fun x hx => ?_, ?_⟩
    · obtain ⟨i, rfl⟩ := List.mem_ofFn.1 hx; exact (hf i).1
    · obtain ⟨b, o, sp⟩ := ad
      simp only at hsp
      subst hsp
      refine ⟨len_map hk _, by simp only [List.length_map, List.length_ofFn]; simp only [maxLen] at hm; omega, .inr ⟨b, o, cap, by rw [List.length_map]⟩, fun i j l u hi hj => ?_, by rw [List.length_map, List.length_ofFn]; exact hrm⟩
      have hi' := lt_of_get hi
      rw [List.length_map, List.length_ofFn] at hi'
      have e1 : l = en (f ⟨i, hi'⟩) := by
        rw [List.getElem?_map, List.getElem?_ofFn] at hi
        simp [hi'] at hi
        exact hi.symm
      subst e1
      have hjk : j < k := by have := lt_of_get hj; rw [hk] at this; exact this
      have h4 := (hf ⟨i, hi'⟩).2 j hjk
      rw [add_eq, add_eq] at h4
      show w.cell? ⟨b, o + i * k + j, none⟩ = some u
      rw [← hj]; exact h4
theorem open_flatM {P : Program} {t : TypeId} {α : Type} {en : α → List Value} {ok : World → α → Prop} (hO : OpenM P t en ok) {H : Type} {enc : TypeId × Value → H} {w : World} {base : Nat} {held : Bool} {v : Value} {d : DataW H} {ps : List MemPlace}
    (hv : ∃ cs : Array Value, v = .agg cs) (h : DataW.Trod enc P w base (fun _ => true) held t v d ps) : ∃ a, ok w a ∧ v = .agg (en a).toArray := by
  obtain ⟨cs, rfl⟩ := hv
  obtain ⟨fuel, h⟩ := h
  obtain ⟨a, ha, he⟩ := hO _ _ _ _ _ _ _ _ h
  refine ⟨a, ha, ?_⟩
  have : cs.toList = en a := he
  rw [← this]
def bt2 (x : Bts × Bts) : List Value := [.slice x.1.a x.1.l.length x.1.c, .slice x.2.a x.2.l.length x.2.c]
theorem O_bt2 {P : Program} {t tb : TypeId} (ht : P.underlying t = some (.array 2 tb)) (hB : OpenM P tb btc BtsOk) (hc : P.cellsOf tb = 1) (hct : P.cellsOf t = 2) : OpenM P t bt2 (fun w x => BtsOk w x.1 ∧ BtsOk w x.2) := by
  intro H enc w base held fuel cs x h
  obtain ⟨xs, m, _, _, hl, hxl, hx⟩ := DataW.trod_array ht h
  rw [hct] at hl
  have g0 := hx 0 (by omega)
  have g1 := hx 1 (by omega)
  rw [hc, List.getElem?_eq_getElem (by omega)] at g0 g1
  obtain ⟨a, ha, e0⟩ := hB _ _ _ _ _ _ _ _ g0
  obtain ⟨b, hb, e1⟩ := hB _ _ _ _ _ _ _ _ g1
  refine ⟨(a, b), ⟨ha, hb⟩, ?_⟩
  match cs, hl with
  | [x0, x1], _ =>
    simp [btc] at e0 e1
    rw [e0, e1]; rfl
end Go.Vx
namespace Go.Proofs.Ytoihdfbaopeaaaa
open Go.RowKit Go.Vx
theorem Try.own : ownKnob Try.prog.godebug = none := by kernel_rfl
theorem Try.laidOut : laidOutB Try.prog = true := by kernel_rfl
theorem O23 : OpenM Try.prog 23 btc BtsOk := O_bts Try.underlying23 Try.underlying5 (by kernel_rfl)
theorem O26 : OpenM Try.prog 26 acc ActOk := O_act Try.underlying26 rfl rfl rfl O23 Try.underlying5 Try.underlying9 Try.underlying9 Try.underlying5 Try.underlying3 (by kernel_rfl) (by kernel_rfl)
theorem O24 : OpenM Try.prog 24 bt2 (fun w x => BtsOk w x.1 ∧ BtsOk w x.2) := O_bt2 Try.underlying24 O23 (by kernel_rfl) (by kernel_rfl)
end Go.Proofs.Ytoihdfbaopeaaaa
namespace Go.Proofs
open Go.Shelf
def Try.sortS_ren : Go.Shelf.Ren := ⟨fun | 6 => 32 | 8 => 36 | 9 => 35 | 19 => 46 | 20 => 47 | 21 => 37 | 22 => 38 | 23 => 39 | 24 => 40 | 25 => 41 | 26 => 42 | 27 => 43 | 28 => 44 | 29 => 45 | 36 => 48 | 31 => 49 | 32 => 50 | 37 => 51 | 38 => 52 | 39 => 53 | 41 => 54 | n => n, fun | 27 => 46 | 29 => 9 | 3 => 3 | 32 => 73 | 26 => 46 | 0 => 0 | 44 => 84 | 46 => 86 | 4 => 4 | 36 => 76 | 35 => 75 | 41 => 81 | 5 => 5 | 9 => 9 | 53 => 87 | 57 => 91 | 63 => 93 | 64 => 94 | n => n, fun | n => n⟩
theorem Try.sortS : Go.Proofs.SlLaysM.n6 Try.prog Try.sortS_ren := {
  mixed := by kernel_rfl
  f6 := ⟨Try.f32.name, by decide, Try.func32.trans (congrArg some (by kernel_rfl))⟩
  f8 := Try.func36.trans (congrArg some (by kernel_rfl))
  f9 := ⟨Try.f35.name, by decide, Try.func35.trans (congrArg some (by kernel_rfl))⟩
  f19 := Try.func46.trans (congrArg some (by kernel_rfl))
  f20 := Try.func47.trans (congrArg some (by kernel_rfl))
  f21 := ⟨Try.f37.name, by decide, Try.func37.trans (congrArg some (by kernel_rfl))⟩
  f22 := ⟨Try.f38.name, by decide, Try.func38.trans (congrArg some (by kernel_rfl))⟩
  f23 := ⟨Try.f39.name, by decide, Try.func39.trans (congrArg some (by kernel_rfl))⟩
  f24 := ⟨Try.f40.name, by decide, Try.func40.trans (congrArg some (by kernel_rfl))⟩
  f25 := ⟨Try.f41.name, by decide, Try.func41.trans (congrArg some (by kernel_rfl))⟩
  f26 := ⟨Try.f42.name, by decide, Try.func42.trans (congrArg some (by kernel_rfl))⟩
  f27 := ⟨Try.f43.name, by decide, Try.func43.trans (congrArg some (by kernel_rfl))⟩
  f28 := ⟨Try.f44.name, by decide, Try.func44.trans (congrArg some (by kernel_rfl))⟩
  f29 := ⟨Try.f45.name, by decide, Try.func45.trans (congrArg some (by kernel_rfl))⟩
  f31 := Try.func49.trans (congrArg some (by kernel_rfl))
  f32 := Try.func50.trans (congrArg some (by kernel_rfl))
  f36 := ⟨Try.f48.name, by decide, Try.func48.trans (congrArg some (by kernel_rfl))⟩
  f37 := ⟨Try.f51.name, by decide, Try.func51.trans (congrArg some (by kernel_rfl))⟩
  f38 := ⟨Try.f52.name, by decide, Try.func52.trans (congrArg some (by kernel_rfl))⟩
  f39 := ⟨Try.f53.name, by decide, Try.func53.trans (congrArg some (by kernel_rfl))⟩
  f41 := ⟨Try.f54.name, by decide, Try.func54.trans (congrArg some (by kernel_rfl))⟩
  t0 := Try.underlying0
  a0 := Try.isAgg0
  z0 := Try.sizeOf0
  v0 := Try.zeroValue0
  t3 := Try.underlying3
  a3 := Try.isAgg3
  z3 := Try.sizeOf3
  v3 := Try.zeroValue3
  t4 := Try.underlying4
  a4 := Try.isAgg4
  z4 := Try.sizeOf4
  v4 := Try.zeroValue4
  t5 := Try.underlying5
  a5 := Try.isAgg5
  z5 := Try.sizeOf5
  v5 := Try.zeroValue5
  t9 := Try.underlying9
  a9 := Try.isAgg9
  z9 := Try.sizeOf9
  v9 := Try.zeroValue9
  t26 := Try.underlying46
  a26 := Try.isAgg46
  z26 := Try.sizeOf46
  v26 := Try.zeroValue46
  t27 := Try.underlying46
  a27 := Try.isAgg46
  z27 := Try.sizeOf46
  v27 := Try.zeroValue46
  t29 := Try.underlying9
  a29 := Try.isAgg9
  z29 := Try.sizeOf9
  v29 := Try.zeroValue9
  t32 := Try.underlying73
  a32 := Try.isAgg73
  z32 := Try.sizeOf73
  v32 := Try.zeroValue73
  t35 := Try.underlying75
  a35 := Try.isAgg75
  z35 := Try.sizeOf75
  v35 := Try.zeroValue75
  t36 := Try.underlying76
  a36 := Try.isAgg76
  z36 := Try.sizeOf76
  v36 := Try.zeroValue76
  t41 := Try.underlying81
  a41 := Try.isAgg81
  z41 := Try.sizeOf81
  v41 := Try.zeroValue81
  t44 := Try.underlying84
  a44 := Try.isAgg84
  z44 := Try.sizeOf84
  v44 := Try.zeroValue84
  t46 := Try.underlying86
  a46 := Try.isAgg86
  z46 := Try.sizeOf86
  v46 := Try.zeroValue86
  t53 := Try.underlying87
  a53 := Try.isAgg87
  z53 := Try.sizeOf87
  v53 := Try.zeroValue87
  t57 := Try.underlying91
  a57 := Try.isAgg91
  z57 := Try.sizeOf91
  v57 := Try.zeroValue91
  t63 := Try.underlying93
  a63 := Try.isAgg93
  z63 := Try.sizeOf93
  v63 := Try.zeroValue93
  t64 := Try.underlying94
  a64 := Try.isAgg94
  z64 := Try.sizeOf94
  v64 := Try.zeroValue94 }
def Try.cloneM_ren : Go.Shelf.Ren := ⟨fun | 5 => 24 | 7 => 30 | n => n, fun | 23 => 41 | 25 => 9 | 3 => 52 | 4 => 4 | 20 => 20 | n => n, fun | n => n⟩
theorem Try.cloneM : Go.Proofs.SlLaysW.n5 Try.prog Try.cloneM_ren := {
  mixed := by kernel_rfl
  f5 := ⟨Try.f24.name, by decide, Try.func24.trans (congrArg some (by kernel_rfl))⟩
  f7 := Try.func30.trans (congrArg some (by kernel_rfl))
  t4 := Try.underlying4
  a4 := Try.isAgg4
  z4 := Try.sizeOf4
  v4 := Try.zeroValue4
  t20 := Try.underlying20
  a20 := Try.isAgg20
  z20 := Try.sizeOf20
  v20 := Try.zeroValue20
  t23 := Try.underlying41
  a23 := Try.isAgg41
  z23 := Try.sizeOf41
  v23 := Try.zeroValue41 }
end Go.Proofs
namespace Go.Proofs.Ytoihdfbaopeaaaa
open Go.Vx Go.Proofs
theorem sortsS : SortP Try.prog 32 9 := sortP_of Try.sortS 9
theorem clonesM (w : World) (r : Nat) (l : List (Str × Pt)) (h : MapF w r sv Value.pointer l) : Calls Try.prog 24 #[.map (some r)] w fun e w' => ∃ x : Nat, e = .returned (.map (some x)) ∧ Own w no w' [mapR x sv Value.pointer l] ∧ True :=
  mapR_of_alloc h fun es clock hb => AnyW.maps_Clone Try.cloneM r es clock w hb
end Go.Proofs.Ytoihdfbaopeaaaa
