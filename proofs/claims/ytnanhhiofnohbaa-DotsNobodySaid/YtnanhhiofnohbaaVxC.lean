/- The operations, one law each. -/
import Derived.Test.YtnanhhiofnohbaaVxB
namespace Go.Vx
open Go.RowKit

/-! ## what is known of types -/
def Sz (P : Program) (t k : Nat) : Prop := ∀ w, (sizeOf t).run P w = .ok k w
def Ag (P : Program) (t : Nat) (b : Bool) : Prop := ∀ w, (isAgg t).run P w = .ok b w
def Zv (P : Program) (t : Nat) (z : Value) : Prop := ∀ w, (zeroValue t).run P w = .ok z w
def Ud (P : Program) (t : Nat) (d : TypeDesc) : Prop := ∀ w, (underlying t).run P w = .ok d w
/-- a type of one cell -/
def T1 (P : Program) (t : Nat) : Prop := Sz P t 1 ∧ Ag P t false
/-- a struct or an array of k cells -/
def TA (P : Program) (t k : Nat) : Prop := Sz P t k ∧ Ag P t true
/-- the field's place in the struct -/
def FA (P : Program) (s f off : Nat) : Prop := ∀ b o w, (Instr.fieldAt s (.pointer (some ⟨b, o, none⟩)) f).run P w = .ok (.pointer (some ⟨b, o + off, none⟩)) w
/-- the function is entered -/
def En (P : Program) (f : Nat) : Prop := ∀ args w, (callFunc f args).run P w = .ok (.enter f args) w

section
variable {P : Program} {ty : TypeId} {e : Operand → Value} {w : World} {K : Value → World → Prop}

theorem L_move {x : Operand} {V : Value} (hx : e x = V) (h : K V w) : opW P (.move x) ty e w K := by
  refine ⟨rfl, ?_⟩; show K (e x) w; rw [hx]; exact h
theorem L_assign {x : Operand} {V : Value} (hx : e x = V) (h : K V w) : opW P (.assign x) ty e w K := by
  refine ⟨rfl, ?_⟩; show K (e x) w; rw [hx]; exact h
theorem opW_val {op : Op} {V : Value} {w' : World} (hr : (execOp e { dst := none, op, type := ty, pos := "", after := #[], guard := none }).run P w = .ok (.value V) w') (h : K V w') (hd : notDefer op = true := by rfl) : opW P op ty e w K := by
  refine ⟨hd, ?_⟩; rw [hr]; exact h
theorem opW_skip {op : Op} {w' : World} (hr : (execOp e { dst := none, op, type := ty, pos := "", after := #[], guard := none }).run P w = .ok .skip w') (h : K undef w') (hd : notDefer op = true := by rfl) : opW P op ty e w K := by
  refine ⟨hd, ?_⟩; rw [hr]; exact h

/-! ## choice -/
theorem L_pick {c a b : Operand} {g : Bool} {V : Value} (hc : e c = .bool g) (hv : (if g then e a else e b) = V) (h : K V w) : opW P (.pick c a b) ty e w K := by
  refine opW_val (w' := w) ?_ h
  simp only [execOp, hc, asBool, Sem.run_bind, Sem.run_pure, Result.andThen_ok, hv]
theorem L_and {c b : Operand} {g h' : Bool} {z : Operand} (hc : e c = .bool g) (hz : e z = .bool false) (hb : g = true → e b = .bool h') (h : K (.bool (g && h')) w) : opW P (.pick c b z) ty e w K := by
  refine L_pick hc (V := .bool (g && h')) ?_ h
  cases g with
  | true => simp [hb rfl]
  | false => simp [hz]
theorem L_or {c b : Operand} {g h' : Bool} {z : Operand} (hc : e c = .bool g) (hz : e z = .bool true) (hb : g = false → e b = .bool h') (h : K (.bool (g || h')) w) : opW P (.pick c z b) ty e w K := by
  refine L_pick hc (V := .bool (g || h')) ?_ h
  cases g with
  | true => simp [hz]
  | false => simp [hb rfl]

/-! ## whole numbers -/
theorem L_bin {op : BinOp} {t u : TypeId} {x y : Operand} {k : IntKind} {a b : Int} {V : Value} (hx : e x = .int k a) (hy : e y = .int k b)
    (hr : ∀ w, (binOp op t (.int k a) (.int k b)).run P w = .ok V w) (h : K V w) : opW P (.binOp op t x y u) ty e w K := by
  refine opW_val (w' := w) ?_ h
  simp only [execOp, hx, hy, eqGuard_at_int, Sem.run_bind, Sem.run_pure, Result.andThen_ok, hr]
section
variable {t u : TypeId} {x y : Operand} {k : IntKind} {a b : Int}
theorem L_lss (hx : e x = .int k a) (hy : e y = .int k b) (h : K (.bool (decide (a < b))) w) : opW P (.binOp .lss t x y u) ty e w K := L_bin hx hy (fun _ => by rw [binOp_lss]; rfl) h
theorem L_leq (hx : e x = .int k a) (hy : e y = .int k b) (h : K (.bool (decide (a ≤ b))) w) : opW P (.binOp .leq t x y u) ty e w K := L_bin hx hy (fun _ => by rw [binOp_leq]; rfl) h
theorem L_gtr (hx : e x = .int k a) (hy : e y = .int k b) (h : K (.bool (decide (b < a))) w) : opW P (.binOp .gtr t x y u) ty e w K := L_bin hx hy (fun _ => by rw [binOp_gtr]; rfl) h
theorem L_geq (hx : e x = .int k a) (hy : e y = .int k b) (h : K (.bool (decide (b ≤ a))) w) : opW P (.binOp .geq t x y u) ty e w K := L_bin hx hy (fun _ => by rw [binOp_geq]; rfl) h
theorem L_eql (hx : e x = .int k a) (hy : e y = .int k b) (h : K (.bool (decide (a = b))) w) : opW P (.binOp .eql t x y u) ty e w K := L_bin hx hy (fun _ => by rw [binOp_eql]; rfl) h
theorem L_neq (hx : e x = .int k a) (hy : e y = .int k b) (h : K (.bool (!decide (a = b))) w) : opW P (.binOp .neq t x y u) ty e w K := L_bin hx hy (fun _ => by rw [binOp_neq]; rfl) h
theorem L_add {c : Int} (hx : e x = .int k a) (hy : e y = .int k b) (hc : k.wrap (a + b) = c) (h : K (.int k c) w) : opW P (.binOp .add t x y u) ty e w K := L_bin hx hy (fun _ => by rw [binOp_add, ← hc]; rfl) h
theorem L_sub {c : Int} (hx : e x = .int k a) (hy : e y = .int k b) (hc : k.wrap (a - b) = c) (h : K (.int k c) w) : opW P (.binOp .sub t x y u) ty e w K := L_bin hx hy (fun _ => by rw [binOp_sub, ← hc]; rfl) h
theorem L_mul {c : Int} (hx : e x = .int k a) (hy : e y = .int k b) (hc : k.wrap (a * b) = c) (h : K (.int k c) w) : opW P (.binOp .mul t x y u) ty e w K := L_bin hx hy (fun _ => by rw [binOp_mul, ← hc]; rfl) h
theorem L_quo {c : Int} (hx : e x = .int k a) (hy : e y = .int k b) (hb : b ≠ 0) (hc : k.wrap (a.tdiv b) = c) (h : K (.int k c) w) : opW P (.binOp .quo t x y u) ty e w K := L_bin hx hy (fun _ => by rw [binOp_quo]; simp [Op.intDiv, hb, hc]) h
theorem L_rem {c : Int} (hx : e x = .int k a) (hy : e y = .int k b) (hb : b ≠ 0) (hc : a.tmod b = c) (h : K (.int k c) w) : opW P (.binOp .rem t x y u) ty e w K := L_bin hx hy (fun _ => by rw [binOp_rem]; simp [Op.intDiv, hb, hc]) h
theorem L_and2 (hx : e x = .int k a) (hy : e y = .int k b) (h : K (.int k (bits .and k a b)) w) : opW P (.binOp .and t x y u) ty e w K := L_bin hx hy (fun _ => by rw [binOp_and, intBits_and]; rfl) h
theorem L_or2 (hx : e x = .int k a) (hy : e y = .int k b) (h : K (.int k (bits .or k a b)) w) : opW P (.binOp .or t x y u) ty e w K := L_bin hx hy (fun _ => by rw [binOp_or, intBits_or]; rfl) h
theorem L_xor2 (hx : e x = .int k a) (hy : e y = .int k b) (h : K (.int k (bits .xor k a b)) w) : opW P (.binOp .xor t x y u) ty e w K := L_bin hx hy (fun _ => by rw [binOp_xor, intBits_xor]; rfl) h
theorem L_shr {j : IntKind} (hx : e x = .int k a) (hy : e y = .int j b) (h0 : 0 ≤ b) (h1 : b ≤ k.bits) (h : K (.int k (a / 2 ^ b.toNat)) w) : opW P (.binOp .shr t x y u) ty e w K := by
  refine opW_val (w' := w) ?_ h
  simp only [execOp, hx, hy, eqGuard_at_int, Sem.run_bind, Sem.run_pure, Result.andThen_ok, binOp_shr, shift_shr k j a b h0 h1]
theorem L_shl {j : IntKind} (hx : e x = .int k a) (hy : e y = .int j b) (h0 : 0 ≤ b) (h1 : b ≤ k.bits) (h : K (.int k (k.wrap (a * 2 ^ b.toNat))) w) : opW P (.binOp .shl t x y u) ty e w K := by
  refine opW_val (w' := w) ?_ h
  simp only [execOp, hx, hy, eqGuard_at_int, Sem.run_bind, Sem.run_pure, Result.andThen_ok, binOp_shl, shift_shl k j a b h0 h1]
end
theorem L_not {t : TypeId} {x : Operand} {b : Bool} (hx : e x = .bool b) (h : K (.bool (!b)) w) : opW P (.unOp .not t x) ty e w K := by
  refine opW_val (w' := w) ?_ h
  simp only [execOp, hx, Op.unary, Sem.run_bind, Sem.run_pure, Result.andThen_ok]
theorem L_conv {s d : TypeId} {x : Operand} {j k : IntKind} {a c : Int} {u : TypeDesc} (hs : Ud P s u) (hd : Ud P d (.int k)) (hx : e x = .int j a) (hc : k.wrap a = c) (h : K (.int k c) w) : opW P (.convert s d x) ty e w K := by
  refine opW_val (w' := w) ?_ h
  simp only [execOp, hx, convert, Sem.run_bind, Result.andThen_ok, hs w, hd w]
  subst hc
  rfl
theorem L_max {x y : Operand} {ats : Array TypeId} {k : IntKind} {a b : Int} (hx : e x = .int k a) (hy : e y = .int k b) (h : K (.int k (max a b)) w) : opW P (.call { callee := .builtin .max, args := #[x, y], argTypes := ats }) ty e w K := by
  refine opW_val (w' := w) ?_ h
  rw [BigFrame.execOp_builtin]
  simp only [List.map_toArray, List.map_cons, List.map_nil, hx, hy, BigFrame.builtin_max, Sem.run_bind, run_max_int2, Result.andThen_ok, Sem.run_pure]
  congr 3
  simp only [Int.max_def]
  split <;> split <;> omega
theorem L_min {x y : Operand} {ats : Array TypeId} {k : IntKind} {a b : Int} (hx : e x = .int k a) (hy : e y = .int k b) (h : K (.int k (min a b)) w) : opW P (.call { callee := .builtin .min, args := #[x, y], argTypes := ats }) ty e w K := by
  refine opW_val (w' := w) ?_ h
  rw [BigFrame.execOp_builtin]
  simp only [List.map_toArray, List.map_cons, List.map_nil, hx, hy, BigFrame.builtin_min, Sem.run_bind, run_min_int2, Result.andThen_ok, Sem.run_pure]
  congr 3
  simp only [Int.min_def]
  split <;> split <;> omega
/-! ## bools and nils -/
theorem L_eqb {t u : TypeId} {x y : Operand} {a b : Bool} (ht : P.underlying t = some .bool) (hx : e x = .bool a) (hy : e y = .bool b) (h : K (.bool (a == b)) w) : opW P (.binOp .eql t x y u) ty e w K := by
  refine opW_val (w' := w) ?_ h
  simp only [execOp, hx, hy, eqGuard_at_bool, Sem.run_bind, Sem.run_pure, Result.andThen_ok, run_eql_bool w t a b ht]
theorem L_neb {t u : TypeId} {x y : Operand} {a b : Bool} (ht : P.underlying t = some .bool) (hx : e x = .bool a) (hy : e y = .bool b) (h : K (.bool (!(a == b))) w) : opW P (.binOp .neq t x y u) ty e w K := by
  refine opW_val (w' := w) ?_ h
  simp only [execOp, hx, hy, eqGuard_at_bool, Sem.run_bind, Sem.run_pure, Result.andThen_ok, run_neq_bool w t a b ht]
theorem run_eqIn_ptr {t d : TypeId} (ht : Ud P t (.pointer d)) (n : Nat) (a : Option Addr) : (Op.equalIn (n + 1) t (.pointer a) (.pointer none)).run P w = .ok a.isNone w := by
  cases a <;> simp only [Op.equalIn, Sem.run_bind, ht w, Result.andThen_ok, Sem.run_pure] <;> rfl
theorem run_eqIn_map {t k d : TypeId} (ht : Ud P t (.map k d)) (n : Nat) (a : Option Nat) : (Op.equalIn (n + 1) t (.map a) (.map none)).run P w = .ok a.isNone w := by
  cases a <;> simp only [Op.equalIn, Sem.run_bind, ht w, Result.andThen_ok, Sem.run_pure] <;> rfl
theorem run_eq_ptr {t d : TypeId} (ht : Ud P t (.pointer d)) (a : Option Addr) : (Op.equal t (.pointer a) (.pointer none)).run P w = .ok a.isNone w := run_eqIn_ptr ht 9999 a
theorem run_eq_map {t k d : TypeId} (ht : Ud P t (.map k d)) (a : Option Nat) : (Op.equal t (.map a) (.map none)).run P w = .ok a.isNone w := run_eqIn_map ht 9999 a
theorem L_ptrnil {t u d : TypeId} {x y : Operand} {a : Option Addr} (ht : Ud P t (.pointer d)) (hx : e x = .pointer a) (hy : e y = .pointer none) (h : K (.bool a.isNone) w) : opW P (.binOp .eql t x y u) ty e w K := by
  refine opW_val (w' := w) ?_ h
  simp only [execOp, hx, hy, eqGuard_at_pointer, Sem.run_bind, Sem.run_pure, Result.andThen_ok, binOp, run_eq_ptr ht]
theorem L_ptrnn {t u d : TypeId} {x y : Operand} {a : Option Addr} (ht : Ud P t (.pointer d)) (hx : e x = .pointer a) (hy : e y = .pointer none) (h : K (.bool a.isSome) w) : opW P (.binOp .neq t x y u) ty e w K := by
  refine opW_val (w' := w) ?_ h
  simp only [execOp, hx, hy, eqGuard_at_pointer, Sem.run_bind, Sem.run_pure, Result.andThen_ok, binOp, run_eq_ptr ht]
  cases a <;> rfl
theorem L_mapnil {t u k d : TypeId} {x y : Operand} {a : Option Nat} (ht : Ud P t (.map k d)) (hx : e x = .map a) (hy : e y = .map none) (h : K (.bool a.isNone) w) : opW P (.binOp .eql t x y u) ty e w K := by
  refine opW_val (w' := w) ?_ h
  simp only [execOp, hx, hy, eqGuard_at_map, Sem.run_bind, Sem.run_pure, Result.andThen_ok, binOp, run_eq_map ht]
theorem L_mapnn {t u k d : TypeId} {x y : Operand} {a : Option Nat} (ht : Ud P t (.map k d)) (hx : e x = .map a) (hy : e y = .map none) (h : K (.bool a.isSome) w) : opW P (.binOp .neq t x y u) ty e w K := by
  refine opW_val (w' := w) ?_ h
  simp only [execOp, hx, hy, eqGuard_at_map, Sem.run_bind, Sem.run_pure, Result.andThen_ok, binOp, run_eq_map ht]
  cases a <;> rfl
theorem L_nilCheck {x : Operand} {a : Addr} (hx : e x = .pointer (some a)) (h : K (.pointer (some a)) w) : opW P (.nilCheck x) ty e w K := by
  refine opW_val (w' := w) ?_ h
  simp only [execOp, hx, Sem.run_pure]
theorem L_extract {x : Operand} {i : Nat} {vs : Array Value} {V : Value} (hx : e x = .tuple vs) (hv : vs[i]? = some V) (h : K V w) : opW P (.extract x i) ty e w K := by
  refine opW_val (w' := w) ?_ h
  simp only [execOp, hx, Instr.extract, hv, Sem.run_bind, Sem.run_pure, Result.andThen_ok]

/-! ## addresses -/
theorem L_fieldAddr {s f off : Nat} {x : Operand} {b o : Nat} (ht : FA P s f off) (hx : e x = .pointer (some ⟨b, o, none⟩)) (h : K (.pointer (some ⟨b, o + off, none⟩)) w) : opW P (.fieldAddr s x f) ty e w K := by
  refine opW_val (w' := w) ?_ h
  simp only [execOp, hx, ht b o w, Sem.run_bind, Sem.run_pure, Result.andThen_ok]
theorem add_eq (b o n : Nat) : (⟨b, o, none⟩ : Addr).add n = ⟨b, o + n, none⟩ := by
  unfold Addr.add; split <;> simp_all
theorem L_ixArr {t n el k : Nat} {x ix : Operand} {b o : Nat} {j : IntKind} {i : Int} (ht : Ud P t (.array n el)) (hk : Sz P el k) (hx : e x = .pointer (some ⟨b, o, none⟩)) (hi : e ix = .int j i) (h0 : 0 ≤ i) (h1 : i < n)
    (h : K (.pointer (some ⟨b, o + i.toNat * k, none⟩)) w) : opW P (.indexAddr t x ix) ty e w K := by
  refine opW_val (w' := w) ?_ h
  simp only [execOp, hx, hi, Instr.indexAt, asIntOf, Instr.sureAddr, Sem.run_bind, Sem.run_pure, Result.andThen_ok, ht w]
  rw [if_pos ⟨h0, h1⟩]
  simp only [Sem.run_bind, hk w, Result.andThen_ok, Sem.run_pure, add_eq]
theorem L_ixArr1 {t n el : Nat} {x ix : Operand} {b o : Nat} {j : IntKind} {i : Int} (ht : Ud P t (.array n el)) (hk : Sz P el 1) (hx : e x = .pointer (some ⟨b, o, none⟩)) (hi : e ix = .int j i) (h0 : 0 ≤ i) (h1 : i < n)
    (h : K (.pointer (some ⟨b, o + i.toNat, none⟩)) w) : opW P (.indexAddr t x ix) ty e w K :=
  L_ixArr ht hk hx hi h0 h1 (by rw [Nat.mul_one]; exact h)
theorem L_ixSl {t el k : Nat} {x ix : Operand} {b o len cap : Nat} {j : IntKind} {i : Int} (ht : Ud P t (.slice el)) (hk : Sz P el k) (hx : e x = .slice (some ⟨b, o, none⟩) len cap) (hi : e ix = .int j i) (h0 : 0 ≤ i) (h1 : i < len)
    (h : K (.pointer (some ⟨b, o + i.toNat * k, none⟩)) w) : opW P (.indexAddr t x ix) ty e w K := by
  refine opW_val (w' := w) ?_ h
  simp only [execOp, hx, hi, Instr.indexAt, asIntOf, Sem.run_bind, Sem.run_pure, Result.andThen_ok, ht w]
  rw [if_pos ⟨h0, h1⟩]
  simp only [Sem.run_bind, hk w, Result.andThen_ok, Sem.run_pure, add_eq]
theorem L_index {t n el : Nat} {x ix : Operand} {cs : Array Value} {j : IntKind} {i : Int} {V : Value} (ht : Ud P t (.array n el)) (hk : T1 P el) (hx : e x = .agg cs) (hi : e ix = .int j i) (h0 : 0 ≤ i) (h1 : i < n) (hv : cs[i.toNat]? = some V)
    (h : K V w) : opW P (.index t x ix) ty e w K := by
  refine opW_val (w' := w) ?_ h
  simp only [execOp, hx, hi, Instr.index, asIntOf, Sem.run_bind, Sem.run_pure, Result.andThen_ok, ht w]
  rw [if_pos ⟨h0, h1⟩]
  simp only [Sem.run_bind, hk.1 w, hk.2 w, Result.andThen_ok, part, Nat.mul_one, Bool.false_eq_true, if_false, hv, Sem.run_pure]
theorem L_fieldV {t f : Nat} {x : Operand} {cs : Array Value} {V : Value} (hr : ∀ w, (Instr.field t (.agg cs) f).run P w = .ok V w) (hx : e x = .agg cs) (h : K V w) : opW P (.field t x f) ty e w K := by
  refine opW_val (w' := w) ?_ h
  simp only [execOp, hx, hr, Sem.run_bind, Sem.run_pure, Result.andThen_ok]

/-! ## reads -/
theorem run_loadVar1 {t : Nat} (ht : T1 P t) (a : Addr) {V : Value} (hc : w.cell? a = some V) : (loadVar t a).run P w = .ok V w := by
  simp only [loadVar, Sem.run_bind, ht.2 w, Result.andThen_ok, Bool.false_eq_true, if_false, run_load, hc]
theorem L_ldc {t : Nat} {x : Operand} {a : Addr} {V : Value} (ht : T1 P t) (hc : w.cell? a = some V) (hx : e x = .pointer (some a)) (h : K V w) : opW P (.load t x) ty e w K := by
  refine opW_val (w' := w) ?_ h
  simp only [execOp, hx, Instr.loadAt, Instr.sureAddr, Sem.run_bind, Sem.run_pure, Result.andThen_ok, run_loadVar1 ht a hc]
theorem run_loadVarA {t k : Nat} (ht : TA P t k) (b o : Nat) (vs : List Value) (hl : vs.length = k) (hc : ∀ j v, vs[j]? = some v → w.cell? ⟨b, o + j, none⟩ = some v) : (loadVar t ⟨b, o, none⟩).run P w = .ok (.agg vs.toArray) w := by
  have h := run_loadCells_list (P := P) w ⟨b, o, none⟩ vs (fun j v hv => by rw [add_eq]; exact hc j v hv)
  rw [hl] at h
  simp only [loadVar, Sem.run_bind, ht.2 w, ht.1 w, Result.andThen_ok, if_true, h, Sem.run_pure]
theorem L_ldcA {t k : Nat} {x : Operand} {b o : Nat} {vs : List Value} (ht : TA P t k) (hl : vs.length = k) (hc : ∀ j v, vs[j]? = some v → w.cell? ⟨b, o + j, none⟩ = some v) (hx : e x = .pointer (some ⟨b, o, none⟩)) (h : K (.agg vs.toArray) w) : opW P (.load t x) ty e w K := by
  refine opW_val (w' := w) ?_ h
  simp only [execOp, hx, Instr.loadAt, Instr.sureAddr, Sem.run_bind, Sem.run_pure, Result.andThen_ok, run_loadVarA ht b o vs hl hc]
variable {w0 : World} {M : Nat → Prop} {L : List Res}
/-- a cell of a block of one's own -/
theorem L_ld {t : Nat} {x : Operand} {b o : Nat} {cs : List Value} {T : TypeId} {V : Value} (ht : T1 P t) (hs : Own w0 M w L) (i : Nat) (hi : L[i]? = some (blk b cs T)) (hx : e x = .pointer (some ⟨b, o, none⟩)) (hv : cs[o]? = some V) (h : K V w) : opW P (.load t x) ty e w K :=
  L_ldc ht (by rw [cell_of_row w b o _ T _ (hs.get_blk i hi)]; simpa using hv) hx h
/-- some cells of a block of one's own -/
theorem L_ldA {t k : Nat} {x : Operand} {b o : Nat} {cs vs : List Value} {T : TypeId} (ht : TA P t k) (hs : Own w0 M w L) (i : Nat) (hi : L[i]? = some (blk b cs T)) (hx : e x = .pointer (some ⟨b, o, none⟩)) (hl : vs.length = k) (hv : (cs.drop o).take k = vs) (h : K (.agg vs.toArray) w) : opW P (.load t x) ty e w K := by
  refine L_ldcA ht hl (fun j v hj => ?_) hx h
  rw [cell_of_row w b _ _ T _ (hs.get_blk i hi)]
  subst hv
  rw [List.getElem?_take] at hj
  split at hj
  · simpa [List.getElem?_drop] using hj
  · cases hj
/-- all cells of a block of one's own -/
theorem L_ldW {t k : Nat} {x : Operand} {b : Nat} {cs : List Value} {T : TypeId} (ht : TA P t k) (hs : Own w0 M w L) (i : Nat) (hi : L[i]? = some (blk b cs T)) (hx : e x = .pointer (some ⟨b, 0, none⟩)) (hl : cs.length = k) (h : K (.agg cs.toArray) w) : opW P (.load t x) ty e w K :=
  L_ldA ht hs i hi hx hl (by subst hl; simp) h

/-! ## new blocks -/
theorem L_alloc {t : Nat} {z : Value} {cs : List Value} (hz : Zv P t z) (hcs : z.cells = cs.toArray) (hs : Own w0 M w L) (h : ∀ b w', Own w0 M w' (L ++ [blk b cs t]) → K (.pointer (some ⟨b, 0, none⟩)) w') : opW P (.alloc t) ty e w K := by
  refine opW_val (w' := w.alloc (.cells cs.toArray t)) ?_ (h w.heap.size _ (hs.new _ _ ⟨rfl, _root_.Go.heap_alloc_new w _⟩))
  simp only [execOp, Instr.alloc, Sem.run_bind, hz w, Result.andThen_ok, newVar, newRow, hcs, run_newObj, Sem.run_pure]
  rfl
theorem L_box {t : Nat} {x : Operand} {V : Value} {cs : List Value} (hx : e x = V) (hcs : V.cells = cs.toArray) (hs : Own w0 M w L) (h : ∀ b w', Own w0 M w' (L ++ [blk b cs t]) → K (.pointer (some ⟨b, 0, none⟩)) w') : opW P (.box t x) ty e w K := by
  refine opW_val (w' := w.alloc (.cells cs.toArray t)) ?_ (h w.heap.size _ (hs.new _ _ ⟨rfl, _root_.Go.heap_alloc_new w _⟩))
  simp only [execOp, hx, Instr.box, Sem.run_bind, Result.andThen_ok, newVar, newRow, hcs, run_newObj, Sem.run_pure]
  rfl
/-! ## writes -/
def spl (cs : List Value) (o : Nat) : List Value → List Value
  | [] => cs
  | v :: vs => spl (cs.set o v) (o + 1) vs
theorem run_storeCells_mid (b : Nat) (T : TypeId) (o : Nat) : ∀ (vs : List Value) (i : Nat) (cs : List Value) (w : World), w.heap[b]? = some (.cells cs.toArray T (0, 0)) → o + i + vs.length ≤ cs.length → (∀ v ∈ vs, v.oneCell' = true) →
    (storeCells ⟨b, o, none⟩ vs i).run P w = .ok () (w.setRow b (spl cs (o + i) vs).toArray)
  | [], i, cs, w, hb, _, _ => by
    have : w.setRow b cs.toArray = w := by
      unfold World.setRow
      congr 1
      apply Array.ext_getElem?
      intro k
      rw [Array.getElem?_modify]
      split
      · rename_i h; subst h; rw [hb]; rfl
      · rfl
    simp only [storeCells, Sem.run_pure, spl, this]
  | v :: vs, i, cs, w, hb, hl, h1 => by
    simp only [List.length_cons] at hl
    have hv := h1 v (by simp)
    have hc : w.cell? ⟨b, o + i, none⟩ = some (cs[o + i]'(by omega)) := by
      rw [cell_of_row w b _ _ T _ hb]; simp
    have hf : w.frozen? ⟨b, o + i, none⟩ = false := frozen_of_row w b _ _ T hb
    simp only [storeCells, Sem.run_bind, add_eq]
    rw [run_store P w _ v _ hv, hc, hf]
    simp only [Bool.false_eq_true, if_false, Result.andThen_ok]
    rw [setCell_eq_setRow w b (o + i) cs.toArray T (0, 0) v hb]
    have hb' : (w.setRow b (cs.toArray.setIfInBounds (o + i) v)).heap[b]? = some (.cells (cs.set (o + i) v).toArray T (0, 0)) := by
      rw [setRow_heap w b _ _ T _ hb]; simp
    rw [run_storeCells_mid b T o vs (i + 1) (cs.set (o + i) v) _ hb' (by simp; omega) (fun v hv => h1 v (by simp [hv]))]
    rw [setRow_setRow]
    rfl
theorem run_storeVar_mid {t k : Nat} (ht : Sz P t k) (b o : Nat) (T : TypeId) (V : Value) (vs cs : List Value) (hV : V.cells = vs.toArray) (hk : vs.length = k) (hb : w.heap[b]? = some (.cells cs.toArray T (0, 0))) (hl : o + vs.length ≤ cs.length) (h1 : ∀ v ∈ vs, v.oneCell' = true) :
    (storeVar t ⟨b, o, none⟩ V).run P w = .ok () (w.setRow b (spl cs o vs).toArray) := by
  have h := run_storeCells_mid (P := P) b T o vs 0 cs w hb (by omega) h1
  simp only [storeVar, Sem.run_bind, ht w, Result.andThen_ok, hV, List.size_toArray, hk]
  simp only [Nat.add_zero] at h
  simpa using h
theorem L_st {t k : Nat} {x y : Operand} {b o : Nat} {T : TypeId} {V : Value} {vs cs cs' : List Value} (ht : Sz P t k) (hs : Own w0 M w L) (i : Nat) (hi : L[i]? = some (blk b cs T)) (hx : e x = .pointer (some ⟨b, o, none⟩)) (hy : e y = V) (hV : V.cells = vs.toArray) (hk : vs.length = k)
    (hl : o + vs.length ≤ cs.length) (h1 : ∀ v ∈ vs, v.oneCell' = true) (hc : spl cs o vs = cs') (h : ∀ w', Own w0 M w' (L.set i (blk b cs' T)) → K undef w') : opW P (.store t x y) ty e w K := by
  refine opW_skip (w' := w.setRow b cs'.toArray) ?_ (h _ (hs.set_blk i hi))
  simp only [execOp, hx, hy, Instr.storeAt, Instr.sureAddr, Sem.run_bind, Sem.run_pure, Result.andThen_ok, run_storeVar_mid ht b o T V vs cs hV hk (hs.get_blk i hi) hl h1, hc]
/-- one cell is written -/
theorem L_st1 {t : Nat} {x y : Operand} {b o : Nat} {T : TypeId} {V : Value} {cs cs' : List Value} (ht : T1 P t) (hs : Own w0 M w L) (i : Nat) (hi : L[i]? = some (blk b cs T)) (hx : e x = .pointer (some ⟨b, o, none⟩)) (hy : e y = V) (h1 : V.oneCell' = true)
    (hl : o < cs.length) (hc : cs.set o V = cs') (h : ∀ w', Own w0 M w' (L.set i (blk b cs' T)) → K undef w') : opW P (.store t x y) ty e w K :=
  L_st ht.1 hs i hi hx hy (V := V) (vs := [V]) (by cases V <;> first | rfl | cases h1) rfl (by simp; omega) (by simpa using h1) hc h

/-! ## calls -/
theorem opW_enter {op : Op} {f : FuncId} {args : Array Value} (hr : (execOp e { dst := none, op, type := ty, pos := "", after := #[], guard := none }).run P w = .ok (.enter f args) w) (h : Calls P f args w fun r w' => ∃ v, r = .returned v ∧ K v w') (hd : notDefer op = true := by rfl) : opW P op ty e w K := by
  refine ⟨hd, ?_⟩; rw [hr]; exact h
theorem L_callN {f : FuncId} {xs : Array Operand} {vs : Array Value} {ats : Array TypeId} (hf : En P f) (hef : e (.func f) = .func (.func f) #[] #[]) (hv : xs.map e = vs) (h : Calls P f vs w fun r w' => ∃ v, r = .returned v ∧ K v w') :
    opW P (.call { callee := .value (.func f), args := xs, argTypes := ats }) ty e w K := by
  refine opW_enter (f := f) (args := vs) ?_ h
  simp only [execOp, resolve, hv, hef, Deferred.ofValue, Sem.run_bind, Sem.run_pure, Result.andThen_ok, invoke, Array.empty_append, Array.append_empty, hf vs w]
section
variable {f : FuncId} {ats : Array TypeId} {x1 x2 x3 x4 x5 x6 : Operand} {v1 v2 v3 v4 v5 v6 : Value}
theorem L_call0 (hf : En P f) (hef : e (.func f) = .func (.func f) #[] #[]) (h : Calls P f #[] w fun r w' => ∃ v, r = .returned v ∧ K v w') : opW P (.call { callee := .value (.func f), args := #[], argTypes := ats }) ty e w K :=
  L_callN hf hef (by simp) h
theorem L_call1 (hf : En P f) (hef : e (.func f) = .func (.func f) #[] #[]) (h1 : e x1 = v1) (h : Calls P f #[v1] w fun r w' => ∃ v, r = .returned v ∧ K v w') : opW P (.call { callee := .value (.func f), args := #[x1], argTypes := ats }) ty e w K :=
  L_callN hf hef (by simp [h1]) h
theorem L_call2 (hf : En P f) (hef : e (.func f) = .func (.func f) #[] #[]) (h1 : e x1 = v1) (h2 : e x2 = v2) (h : Calls P f #[v1, v2] w fun r w' => ∃ v, r = .returned v ∧ K v w') : opW P (.call { callee := .value (.func f), args := #[x1, x2], argTypes := ats }) ty e w K :=
  L_callN hf hef (by simp [h1, h2]) h
theorem L_call3 (hf : En P f) (hef : e (.func f) = .func (.func f) #[] #[]) (h1 : e x1 = v1) (h2 : e x2 = v2) (h3 : e x3 = v3) (h : Calls P f #[v1, v2, v3] w fun r w' => ∃ v, r = .returned v ∧ K v w') : opW P (.call { callee := .value (.func f), args := #[x1, x2, x3], argTypes := ats }) ty e w K :=
  L_callN hf hef (by simp [h1, h2, h3]) h
theorem L_call4 (hf : En P f) (hef : e (.func f) = .func (.func f) #[] #[]) (h1 : e x1 = v1) (h2 : e x2 = v2) (h3 : e x3 = v3) (h4 : e x4 = v4) (h : Calls P f #[v1, v2, v3, v4] w fun r w' => ∃ v, r = .returned v ∧ K v w') : opW P (.call { callee := .value (.func f), args := #[x1, x2, x3, x4], argTypes := ats }) ty e w K :=
  L_callN hf hef (by simp [h1, h2, h3, h4]) h
theorem L_call5 (hf : En P f) (hef : e (.func f) = .func (.func f) #[] #[]) (h1 : e x1 = v1) (h2 : e x2 = v2) (h3 : e x3 = v3) (h4 : e x4 = v4) (h5 : e x5 = v5) (h : Calls P f #[v1, v2, v3, v4, v5] w fun r w' => ∃ v, r = .returned v ∧ K v w') : opW P (.call { callee := .value (.func f), args := #[x1, x2, x3, x4, x5], argTypes := ats }) ty e w K :=
  L_callN hf hef (by simp [h1, h2, h3, h4, h5]) h
theorem L_call6 (hf : En P f) (hef : e (.func f) = .func (.func f) #[] #[]) (h1 : e x1 = v1) (h2 : e x2 = v2) (h3 : e x3 = v3) (h4 : e x4 = v4) (h5 : e x5 = v5) (h6 : e x6 = v6) (h : Calls P f #[v1, v2, v3, v4, v5, v6] w fun r w' => ∃ v, r = .returned v ∧ K v w') : opW P (.call { callee := .value (.func f), args := #[x1, x2, x3, x4, x5, x6], argTypes := ats }) ty e w K :=
  L_callN hf hef (by simp [h1, h2, h3, h4, h5, h6]) h
end
theorem L_lenS {t el : Nat} {x : Operand} {a : Option Addr} {n c : Nat} (ht : Ud P t (.slice el)) (hx : e x = .slice a n c) (h : K (.int .i64 n) w) : opW P (.call { callee := .builtin .len, args := #[x], argTypes := #[t] }) ty e w K := by
  refine opW_val (w' := w) ?_ h
  rw [BigFrame.execOp_builtin]
  simp only [List.map_toArray, List.map_cons, List.map_nil, hx, BigFrame.builtin_len, Builtin.len_, Sem.run_bind, ht w, Result.andThen_ok, Sem.run_pure, List.getElem?_toArray, List.getElem?_cons_zero, goInt]
end

/-! ## results -/
section
variable {P : Program} {n : Nat} {ρ : Env} {w : World} {fn : Func}
theorem getD_fr (t : Nat) : (fr n ρ).tmps.getD t undef = ev n ρ (.tmp t) := eval_fr n ρ (.tmp t)
theorem res_none (h : fn.results = #[]) : (results fn (fr n ρ).tmps).run P w = .ok (.tuple #[]) w := by
  simp [results, h]
theorem res_one {t : Nat} {V : Value} (h : fn.results = #[.tmp t]) (hv : ev n ρ (.tmp t) = V) : (results fn (fr n ρ).tmps).run P w = .ok V w := by
  have := getD_fr (n := n) (ρ := ρ) t
  rw [hv] at this
  simp only [Array.getD_eq_getD_getElem?] at this
  simp [results, h, this]
theorem res_two {s t : Nat} {U V : Value} (h : fn.results = #[.tmp s, .tmp t]) (hu : ev n ρ (.tmp s) = U) (hv : ev n ρ (.tmp t) = V) : (results fn (fr n ρ).tmps).run P w = .ok (.tuple #[U, V]) w := by
  have h1 := getD_fr (n := n) (ρ := ρ) t
  have h2 := getD_fr (n := n) (ρ := ρ) s
  rw [hv] at h1
  rw [hu] at h2
  simp only [Array.getD_eq_getD_getElem?] at h1 h2
  simp [results, h, h1, h2]
theorem res_three {s t r : Nat} {U V Z : Value} (h : fn.results = #[.tmp s, .tmp t, .tmp r]) (hu : ev n ρ (.tmp s) = U) (hv : ev n ρ (.tmp t) = V) (hz : ev n ρ (.tmp r) = Z) : (results fn (fr n ρ).tmps).run P w = .ok (.tuple #[U, V, Z]) w := by
  have h1 := getD_fr (n := n) (ρ := ρ) t
  have h2 := getD_fr (n := n) (ρ := ρ) s
  have h3 := getD_fr (n := n) (ρ := ρ) r
  rw [hv] at h1
  rw [hu] at h2
  rw [hz] at h3
  simp only [Array.getD_eq_getD_getElem?] at h1 h2 h3
  simp [results, h, h1, h2, h3]
theorem run_loadVarB {w0 : World} {M : Nat → Prop} {L : List Res} {t k b : Nat} {cs : List Value} {T : TypeId} (ht : TA P t k) (hs : Own w0 M w L) (i : Nat) (hi : L[i]? = some (blk b cs T)) (hl : cs.length = k) : (loadVar t ⟨b, 0, none⟩).run P w = .ok (.agg cs.toArray) w :=
  run_loadVarA ht b 0 cs hl fun j v hj => by rw [cell_of_row w b _ _ T _ (hs.get_blk i hi)]; simpa using hj
theorem res_cell {w0 : World} {M : Nat → Prop} {L : List Res} {p t k b : Nat} {cs : List Value} {T : TypeId} (h : fn.results = #[.cell p t]) (ht : TA P t k) (hs : Own w0 M w L) (i : Nat) (hi : L[i]? = some (blk b cs T)) (hp : ev n ρ (.tmp p) = .pointer (some ⟨b, 0, none⟩)) (hl : cs.length = k) :
    (results fn (fr n ρ).tmps).run P w = .ok (.agg cs.toArray) w := by
  have h1 := getD_fr (n := n) (ρ := ρ) p
  rw [hp] at h1
  simp only [Array.getD_eq_getD_getElem?] at h1
  simp [results, h, h1, asAddr, run_loadVarB ht hs i hi hl]
theorem res_cell2 {w0 : World} {M : Nat → Prop} {L : List Res} {p t k b s : Nat} {cs : List Value} {T : TypeId} {V : Value} (h : fn.results = #[.cell p t, .tmp s]) (ht : TA P t k) (hs : Own w0 M w L) (i : Nat) (hi : L[i]? = some (blk b cs T)) (hp : ev n ρ (.tmp p) = .pointer (some ⟨b, 0, none⟩)) (hl : cs.length = k) (hv : ev n ρ (.tmp s) = V) :
    (results fn (fr n ρ).tmps).run P w = .ok (.tuple #[.agg cs.toArray, V]) w := by
  have h1 := getD_fr (n := n) (ρ := ρ) p
  have h2 := getD_fr (n := n) (ρ := ρ) s
  rw [hp] at h1
  rw [hv] at h2
  simp only [Array.getD_eq_getD_getElem?] at h1 h2
  simp [results, h, h1, h2, asAddr, run_loadVarB ht hs i hi hl]
end
end Go.Vx
