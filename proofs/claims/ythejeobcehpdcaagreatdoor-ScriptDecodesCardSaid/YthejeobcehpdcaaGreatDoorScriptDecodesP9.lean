/- A part of a proof: what functions of the program compute, and plain facts on that. -/
import Derived.Test.YthejeobcehpdcaaGreatDoorScriptDecodesP8
set_option linter.unusedVariables false
set_option linter.unusedSectionVars false
set_option linter.unusedSimpArgs false
namespace Go.Proofs
open Go Go.Vx Go.RowKit Go.Ce
namespace Ct
set_option maxRecDepth 1000000
def stcv (x : Stc) (a : Option Addr) (c : Nat) : List Value := [.int .i64 x.what, .int .u8 x.a, .int .u8 x.b, .int .i64 x.n, .int .i64 x.kind, .int .u16 x.at_, .int .u8 x.by_] ++ oc x.op ++ vc x.vec ++ [.slice a x.cuts.length c]
def scV (b : Bs) (p : Option Addr) (c k r q : Nat) : Value :=
  if q = 0 then .slice p b.length c else if q = 1 then .int .i64 ((b.length : Nat) : Int) else if q = 2 then .int .i64 ((b.length - k : Nat) : Int) else if q < 100 then .bool false
  else if q < 200 then .pointer (p.map (·.add (q - 100))) else if q < 300 then .int .u8 (bat b (q - 200)) else if q < 400 then .int .i64 (bat b (q - 300)) else if q < 500 then .int .u16 (bat b (q - 400)) else if q < 600 then .int .u32 (bat b (q - 500))
  else if q = 600 then .slice (sla p k c 1) (b.length - k) (c - k) else .slice (sla (sla p k c 1) r (c - k) 1) (b.length - k - r) (c - k - r)
abbrev scTok (b : Bs) (p : Option Addr) (c k r : Nat) : Ce.Tok := ⟨scV b p c k r, fun w0 M => ∀ (w : World) (L : List Vx.Res), Own w0 M w L → Rd w (.slice p b.length c) 1 (b.map (ic .u8))⟩
noncomputable def toks (n k : Nat) : List AV := (List.range' n k).map AV.tok
noncomputable def scTk (k r : Nat) : TokT :=
  ⟨fun q i => cond (Nat.beq q 0 && Nat.blt i k) (some (100 + i)) none, fun q => cond (Nat.ble 100 q && Nat.blt q (100 + k)) (some (q + 100)) none, fun q a => cond (Nat.beq q 0 && Nat.beq a k) (some 600) (cond (Nat.beq q 600 && Nat.beq a r) (some 601) none),
   fun q j => cond (Nat.ble 200 q && Nat.blt q (200 + k)) (match j with | .i64 => some (q + 100) | .u16 => some (q + 200) | .u32 => some (q + 300) | _ => none) none,
   fun q n => cond (Nat.beq q 600 && Nat.beq n r) (some (List.range' (200 + k) r)) none⟩
theorem scV_ne (b : Bs) (p : Option Addr) (c k r q : Nat) : (scV b p c k r q).oneCell' = true := by
  unfold scV
  repeat' split
  all_goals rfl
theorem scTk_ok (b : Bs) (p : Option Addr) (c k r : Nat) (hby : ByOk b) (hc : b.length ≤ c) (hp : p = none → b.length = 0) (hk : k + r ≤ b.length) (hk8 : k ≤ 8) (hr8 : r ≤ 8) (hsh : ∀ (w : World), Rd w (.slice p b.length c) 1 (b.map (ic .u8)) → ∀ a, p = some a → ∃ g o, a = ⟨g, o, none⟩) (hinv : ∃ w0 M, (scTok b p c k r).I w0 M ∧ ∃ L, Own w0 M w0 L) :
    @TkOk (scTok b p c k r) (scTk k r) := by
  letI := scTok b p c k r
  have hbat : ∀ i, i < b.length → 0 ≤ bat b i ∧ bat b i < 256 := fun i hi => hby _ (by unfold bat; rw [List.getD_eq_getElem?_getD, List.getElem?_eq_getElem hi]; exact List.getElem_mem hi)
  obtain ⟨w0, M0, hI0, L0, ho0⟩ := hinv
  have hr0 : Rd w0 (.slice p b.length c) 1 (b.map (ic .u8)) := hI0 w0 L0 ho0
  have cellAt : ∀ (w : World) (g o i : Nat), Rd w (.slice p b.length c) 1 (b.map (ic .u8)) → p = some ⟨g, o, none⟩ → i < b.length → w.cell? ⟨g, o + i, none⟩ = some (.int .u8 (bat b i)) := by
    intro w g o i hr hg hi
    have := hr.cell i 0 (ic .u8 (bat b i)) (.int .u8 (bat b i)) (by rw [List.getElem?_map, List.getElem?_eq_getElem hi]; simp only [Option.map_some]; congr 2; unfold bat; rw [List.getD_eq_getElem?_getD, List.getElem?_eq_getElem hi]; rfl) rfl
    rw [hg] at this
    simpa [bkS, Go.Vx.ofS] using this
  refine ⟨fun q i q' h => ?_, fun q q' h => ?_, fun q a q' h => ?_, fun q j q' h => ?_, fun q n l h => ?_⟩
  · obtain ⟨hc1, h⟩ := cond_iff.1 h
    cases h
    rw [Bool.and_eq_true] at hc1
    obtain ⟨c1, c2⟩ := hc1
    cases Nat.eq_of_beq_eq_true c1
    have c2 := bltT c2
    cases hpp : p with
    | none => have := hp hpp; omega
    | some a =>
      refine ⟨a, b.length, c, by show scV b p c k r 0 = _; unfold scV; rw [if_pos rfl, hpp], by omega, ?_⟩
      show scV b p c k r (100 + i) = _
      unfold scV
      rw [if_neg (by omega), if_neg (by omega), if_neg (by omega), if_neg (by omega), if_pos (by omega), hpp, Nat.add_sub_cancel_left]; rfl
  · obtain ⟨hc1, h⟩ := cond_iff.1 h
    cases h
    rw [Bool.and_eq_true] at hc1
    obtain ⟨c1, c2⟩ := hc1
    have c1 := Nat.le_of_ble_eq_true c1
    have c2 := bltT c2
    cases hpp : p with
    | none => have := hp hpp; omega
    | some a =>
      obtain ⟨g, o, rfl⟩ := hsh w0 hr0 a hpp
      have e2 : scV b p c k r (q + 100) = .int .u8 (bat b (q - 100)) := by
        unfold scV
        rw [if_neg (by omega), if_neg (by omega), if_neg (by omega), if_neg (by omega), if_neg (by omega), if_pos (by omega), show q + 100 - 200 = q - 100 by omega]
      refine ⟨g, o + (q - 100), ?_, scV_ne _ _ _ _ _ _, fun w1 M hI w L ho => ?_⟩
      · show scV b p c k r q = _
        unfold scV
        rw [if_neg (by omega), if_neg (by omega), if_neg (by omega), if_neg (by omega), if_pos (by omega), hpp]; simp [add_eq]
      · show _ = some (scV b p c k r (q + 100))
        rw [e2]
        exact cellAt w g o (q - 100) (hI w L ho) hpp (by omega)
  · rcases cond_iff2.1 h with ⟨hc1, h1⟩ | ⟨_, h1⟩
    · cases h1
      rw [Bool.and_eq_true] at hc1
      cases Nat.eq_of_beq_eq_true hc1.1
      cases Nat.eq_of_beq_eq_true hc1.2
      exact ⟨p, b.length, c, rfl, by omega, hc, rfl, rfl⟩
    · obtain ⟨hc1, h2⟩ := cond_iff.1 h1
      cases h2
      rw [Bool.and_eq_true] at hc1
      cases Nat.eq_of_beq_eq_true hc1.1
      cases Nat.eq_of_beq_eq_true hc1.2
      exact ⟨sla p k c 1, b.length - k, c - k, rfl, by omega, by omega, rfl, rfl⟩
  · obtain ⟨hc1, h⟩ := cond_iff.1 h
    rw [Bool.and_eq_true] at hc1
    obtain ⟨c1, c2⟩ := hc1
    have c1 := Nat.le_of_ble_eq_true c1
    have c2 := bltT c2
    have hb := hbat (q - 200) (by omega)
    have e1 : scV b p c k r q = .int .u8 (bat b (q - 200)) := by
      unfold scV
      rw [if_neg (by omega), if_neg (by omega), if_neg (by omega), if_neg (by omega), if_neg (by omega), if_pos (by omega)]
    refine ⟨.u8, bat b (q - 200), e1, ?_⟩
    cases j <;> first | (cases h; done) | skip
    all_goals (cases h; show scV b p c k r _ = _; unfold scV)
    all_goals first
      | (rw [if_neg (by omega), if_neg (by omega), if_neg (by omega), if_neg (by omega), if_neg (by omega), if_neg (by omega), if_pos (by omega), show q + 100 - 300 = q - 200 by omega, wr_i64 (by omega) (by omega)]; done)
      | (rw [if_neg (by omega), if_neg (by omega), if_neg (by omega), if_neg (by omega), if_neg (by omega), if_neg (by omega), if_neg (by omega), if_pos (by omega), show q + 200 - 400 = q - 200 by omega, IntKind.wrap_u16]; congr 1; omega)
      | (rw [if_neg (by omega), if_neg (by omega), if_neg (by omega), if_neg (by omega), if_neg (by omega), if_neg (by omega), if_neg (by omega), if_neg (by omega), if_pos (by omega), show q + 300 - 500 = q - 200 by omega, IntKind.wrap_u32]; congr 1; omega)
  · obtain ⟨hc1, h⟩ := cond_iff.1 h
    cases h
    rw [Bool.and_eq_true] at hc1
    cases Nat.eq_of_beq_eq_true hc1.1
    cases Nat.eq_of_beq_eq_true hc1.2
    have ev : ∀ j, j < r → scV b p c k r (200 + k + j) = .int .u8 (bat b (k + j)) := by
      intro j hj
      unfold scV
      rw [if_neg (by omega), if_neg (by omega), if_neg (by omega), if_neg (by omega), if_neg (by omega), if_pos (by omega), show 200 + k + j - 200 = k + j by omega]
    refine ⟨sla p k c 1, b.length - k, c - k, rfl, by omega, by simp, fun h => ?_, fun x hx => ?_, fun w1 M hI w L ho a ha j x hx => ?_⟩
    · have : p = none := by
        unfold sla at h
        split at h
        · exact h
        · cases p with
          | none => rfl
          | some _ => cases h
      have := hp this
      omega
    · obtain ⟨i, hi, rfl⟩ := List.mem_range'.1 hx
      show (scV b p c k r (200 + k + 1 * i)).oneCell' = true
      rw [Nat.one_mul, ev i hi]; rfl
    · have hj : j < r := by
        have := lt_of_get hx; simpa using this
      rw [List.getElem?_range' hj] at hx
      cases hx
      show _ = some (scV b p c k r (200 + k + 1 * j))
      rw [Nat.one_mul, ev j hj]
      cases hpp : p with
      | none => have := hp hpp; omega
      | some a0 =>
        obtain ⟨g, o, rfl⟩ := hsh w0 hr0 a0 hpp
        have hcell := cellAt w g o (k + j) (hI w L ho) hpp (by omega)
        rw [hpp] at ha
        unfold sla at ha
        rw [if_neg (by omega)] at ha
        simp only [Option.map_some, Option.some.injEq, add_eq] at ha
        subst ha
        rw [add_eq, ← hcell]
        simp [Nat.add_assoc]
def zC (what : Nat) : List AV := [.i .i64 (Int.ofNat what), .i .u8 0, .i .u8 0, .i .i64 0, .i .i64 0, .i .u16 0, .i .u8 0, .i .u8 0, .i .u32 0, .i .u8 0, .i .u16 0, .i .u16 0, .i .u16 0, .i .u32 0, .i .u32 0, .i .u32 0, .i .u32 0, .i .u32 0, .i .u32 0, .i .u32 0, .i .u32 0, .i .u32 0, .i .u32 0, .i .u32 0, .i .u32 0, .i .u32 0, .i .u32 0, .i .u32 0, .i .u32 0, .i .u32 0, .i .u32 0, .i .u32 0, .i .u32 0, .i .u32 0, .i .u32 0, .i .u32 0, .i .u32 0, .i .u32 0, .i .u32 0, .i .u32 0, .i .u32 0, .i .u32 0, .i .u32 0, .i .u32 0, .i .u32 0, .i .u32 0]
def setsC (l : List AV) : List (Nat × Nat) → List AV := List.foldl (fun l x => l.set x.1 (.tok x.2)) l
noncomputable def expC (what : Nat) : List AV := setsC (zC what) (match what with | 1 => [(1, 200), (9, 201), (10, 402), (11, 403), (12, 404), (13, 505)] | 2 => [(1, 200), (2, 201)] | 3 => [(1, 200), (2, 201), (3, 302)] | 4 => [(1, 200), (2, 201), (3, 302), (4, 303), (5, 404), (6, 205)] | 5 => [(1, 200)] | 6 => [(1, 200), (30, 501), (31, 502), (32, 503), (33, 504)] | 7 => [(1, 200), (6, 201)] | 8 => [(1, 200), (3, 301)] | _ => [])
noncomputable def bopS (cr : Bool) (k r : Nat) (sh sh2 : Bool) (op : BinOp) (q : Nat) (j : IntKind) (cst : Int) : Option AV :=
  cond (Nat.beq q 1 && Nat.beq (kd j) 6 && eqI cst (Int.ofNat k)) (match op with | .lss => some (.b sh) | _ => none)
    (cond (Nat.beq q 2 && Nat.beq (kd j) 6 && eqI cst (Int.ofNat r)) (match op with | .lss => some (.b sh2) | _ => none)
      (cond (cr && (Nat.beq q 202 && Nat.beq (kd j) 1 && eqI cst 8)) (match op with | .rem => some (.i .u8 (Int.ofNat r)) | _ => none) none))
noncomputable def tlenS (q : Nat) : Option AV := cond (Nat.beq q 0) (some (.tok 1)) (cond (Nat.beq q 600) (some (.tok 2)) none)
noncomputable def cfgSc (cr : Bool) (k r : Nat) (sh sh2 : Bool) (tk : TokT) : Cfg := cfgOf Tryz.prog.types.toList Tryz.prog.funcs.toList eqsL (fun _ _ _ => none) (bopS cr k r sh sh2) tlenS tk
noncomputable def runSc (cr : Bool) (what k r : Nat) (sh sh2 : Bool) (tk : TokT) : RL := callA (cfgSc cr k r sh sh2 tk) (exec (cfgSc cr k r sh sh2 tk) 1000000) 17 [.i .i64 (Int.ofNat what), .tok 0] ⟨.lf, 64, []⟩
noncomputable def okS (what k r : Nat) (o : RL) : Bool := match o with
  | some [(.tu [.ag cs, .tok q, .b true], m)] => Nat.beq q 601 && eqL (cs.take 46) (expC what) && (match cs.drop 46 with
      | [.sn] => !(Nat.beq what 7)
      | [.sl nm off len cap false] => Nat.beq what 7 && Nat.beq off 0 && Nat.beq len r && Nat.beq cap r && (match m.h.get nm with | some (.row cs' T 0 false) => Nat.beq T 5 && eqL cs' (toks (200 + k) r) | _ => false)
      | _ => false)
  | _ => false
noncomputable def okZ (o : RL) : Bool := match o with
  | some [(.tu [.ag cs, .sn, .b false], _)] => eqL (cs.take 46) (zC 0) && (match cs.drop 46 with | [.sn] => true | _ => false)
  | _ => false
theorem evS1 : okS 1 6 0 (runSc false 1 6 0 false false (scTk 6 0)) = true := by kernel_rfl
theorem evS2 : okS 2 2 0 (runSc false 2 2 0 false false (scTk 2 0)) = true := by kernel_rfl
theorem evS3 : okS 3 3 0 (runSc false 3 3 0 false false (scTk 3 0)) = true := by kernel_rfl
theorem evS4 : okS 4 6 0 (runSc false 4 6 0 false false (scTk 6 0)) = true := by kernel_rfl
theorem evS5 : okS 5 1 0 (runSc false 5 1 0 false false (scTk 1 0)) = true := by kernel_rfl
theorem evS6 : okS 6 5 0 (runSc false 6 5 0 false false (scTk 5 0)) = true := by kernel_rfl
theorem evS8 : okS 8 2 0 (runSc false 8 2 0 false false (scTk 2 0)) = true := by kernel_rfl
theorem evS7_0 : okS 7 3 0 (runSc true 7 3 0 false false (scTk 3 0)) = true := by kernel_rfl
theorem evS7_1 : okS 7 3 1 (runSc true 7 3 1 false false (scTk 3 1)) = true := by kernel_rfl
theorem evS7_2 : okS 7 3 2 (runSc true 7 3 2 false false (scTk 3 2)) = true := by kernel_rfl
theorem evS7_3 : okS 7 3 3 (runSc true 7 3 3 false false (scTk 3 3)) = true := by kernel_rfl
theorem evS7_4 : okS 7 3 4 (runSc true 7 3 4 false false (scTk 3 4)) = true := by kernel_rfl
theorem evS7_5 : okS 7 3 5 (runSc true 7 3 5 false false (scTk 3 5)) = true := by kernel_rfl
theorem evS7_6 : okS 7 3 6 (runSc true 7 3 6 false false (scTk 3 6)) = true := by kernel_rfl
theorem evS7_7 : okS 7 3 7 (runSc true 7 3 7 false false (scTk 3 7)) = true := by kernel_rfl
theorem evZ1 : okZ (runSc false 1 6 0 true false noTok) = true := by kernel_rfl
theorem evZ2 : okZ (runSc false 2 2 0 true false noTok) = true := by kernel_rfl
theorem evZ3 : okZ (runSc false 3 3 0 true false noTok) = true := by kernel_rfl
theorem evZ4 : okZ (runSc false 4 6 0 true false noTok) = true := by kernel_rfl
theorem evZ5 : okZ (runSc false 5 1 0 true false noTok) = true := by kernel_rfl
theorem evZ6 : okZ (runSc false 6 5 0 true false noTok) = true := by kernel_rfl
theorem evZ7 : okZ (runSc false 7 3 0 true false noTok) = true := by kernel_rfl
theorem evZ8 : okZ (runSc false 8 2 0 true false noTok) = true := by kernel_rfl
theorem evZ7_1 : okZ (runSc true 7 3 1 false true (scTk 3 0)) = true := by kernel_rfl
theorem evZ7_2 : okZ (runSc true 7 3 2 false true (scTk 3 0)) = true := by kernel_rfl
theorem evZ7_3 : okZ (runSc true 7 3 3 false true (scTk 3 0)) = true := by kernel_rfl
theorem evZ7_4 : okZ (runSc true 7 3 4 false true (scTk 3 0)) = true := by kernel_rfl
theorem evZ7_5 : okZ (runSc true 7 3 5 false true (scTk 3 0)) = true := by kernel_rfl
theorem evZ7_6 : okZ (runSc true 7 3 6 false true (scTk 3 0)) = true := by kernel_rfl
theorem evZ7_7 : okZ (runSc true 7 3 7 false true (scTk 3 0)) = true := by kernel_rfl
end Ct
end Go.Proofs
