/- Equality of structs and arrays. -/
import Derived.Test.YtnanhhiofnohbaaVxE
import Derived.Test.YtnanhhiofnohbaaVxD
import Derived.ChangeKeysEq
import Derived.Laws.StructEq
namespace Go.Vx
open Go.RowKit

/-- two values of a type are compared, and it comes out so -/
def EqF (P : Program) (D : Nat) (t : TypeId) (u v : Value) (r : Bool) : Prop := ∀ d w, (Op.equalIn (D + d) t u v).run P w = .ok r w
theorem EqF.up {P : Program} {D D' : Nat} {t : TypeId} {u v : Value} {r : Bool} (h : EqF P D t u v r) (hd : D ≤ D') : EqF P D' t u v r := by
  intro d w
  have := h (D' - D + d) w
  rwa [show D + (D' - D + d) = D' + d by omega] at this
theorem EqF_int {P : Program} {t : TypeId} {k k' : IntKind} {a b : Int} (h : Ud P t (.int k')) : EqF P 1 t (.int k a) (.int k b) (decide (a = b)) := by
  intro d w
  have hb : (a == b) = decide (a = b) := by by_cases h : a = b <;> simp [h]
  rw [show 1 + d = d + 1 by omega]
  simp only [Op.equalIn, Sem.run_bind, h w, Result.andThen_ok, if_true, Sem.run_pure, hb]
theorem EqF_bool {P : Program} {t : TypeId} {a b : Bool} (h : Ud P t .bool) : EqF P 1 t (.bool a) (.bool b) (a == b) := by
  intro d w
  rw [show 1 + d = d + 1 by omega]
  simp only [Op.equalIn, Sem.run_bind, h w, Result.andThen_ok, Sem.run_pure]
/-- how a part of a struct is read -/
def PartF (P : Program) (t : TypeId) (xs : List Value) (off : Nat) (u : Value) : Prop := ∀ w, (part t xs.toArray off).run P w = .ok u w
theorem PartF_one {P : Program} {t : TypeId} {xs : List Value} {off : Nat} {u : Value} (ht : T1 P t) (h : xs[off]? = some u) : PartF P t xs off u := by
  intro w
  simp only [part, Sem.run_bind, ht.2 w, Result.andThen_ok, Bool.false_eq_true, if_false, List.getElem?_toArray, h, Sem.run_pure]
theorem PartF_agg {P : Program} {t k : Nat} {xs : List Value} {off : Nat} {us : List Value} (ht : TA P t k) (hl : us.length = k) (h : (xs.drop off).take k = us) : PartF P t xs off (.agg us.toArray) := by
  intro w
  have hle : off + k ≤ xs.length ∨ k = 0 := by
    subst h
    rw [List.length_take, List.length_drop] at hl
    omega
  have hx : xs.toArray.extract off (off + k) = us.toArray := by
    subst h
    simp
  simp only [part, Sem.run_bind, ht.1 w, ht.2 w, Result.andThen_ok, if_true, hx, Sem.run_pure]
inductive EqFs (P : Program) (D : Nat) (xs ys : List Value) : List Field → Bool → Prop
  | nil : EqFs P D xs ys [] true
  | cons {f : Field} {fs : List Field} {u v : Value} {r r' : Bool} : f.name ≠ "_" → PartF P f.type xs f.offset u → PartF P f.type ys f.offset v → EqF P D f.type u v r → EqFs P D xs ys fs r' → EqFs P D xs ys (f :: fs) (r && r')
theorem EqFs.run {P : Program} {D : Nat} {xs ys : List Value} {fs : List Field} {r : Bool} (h : EqFs P D xs ys fs r) (d : Nat) (w : World) : (Op.eqFields (D + d) xs.toArray ys.toArray fs).run P w = .ok r w := by
  induction h with
  | nil => simp [Op.eqFields]
  | cons hn hu hv he _ ih =>
    rename_i r r' _
    simp only [Op.eqFields, if_pos hn, Sem.run_bind, hu w, hv w, Result.andThen_ok, he d w]
    cases r with
    | false => simp
    | true => simpa using ih
theorem EqF_struct {P : Program} {D : Nat} {t : TypeId} {fs : Array Field} {xs ys : List Value} {r : Bool} (ht : P.underlying t = some (.struct fs)) (hp : P.stoodInHeld t = false) (h : EqFs P D xs ys fs.toList r) : EqF P (D + 1) t (.agg xs.toArray) (.agg ys.toArray) r := by
  intro d w
  have hf : P.fieldsOf t = fs := by simp [Program.fieldsOf, ht]
  rw [show D + 1 + d = (D + d) + 1 by omega, run_equalIn_struct w _ t _ _ (by rw [hf]; exact ht) hp, hf]
  exact h.run d w
/-- all of some many -/
def allB (r : Nat → Bool) (n : Nat) : Bool := (List.range n).all r
theorem eqItems_run {P : Program} {D el k n : Nat} {xs ys : List Value} {us vs : Nat → Value} {r : Nat → Bool}
    (hu : ∀ i, i < n → PartF P el xs (i * k) (us i)) (hv : ∀ i, i < n → PartF P el ys (i * k) (vs i)) (he : ∀ i, i < n → EqF P D el (us i) (vs i) (r i)) (d : Nat) (w : World) :
    ∀ l : List Nat, (∀ i ∈ l, i < n) → (Op.eqItems (D + d) el k xs.toArray ys.toArray l).run P w = .ok (l.all r) w
  | [], _ => by simp [Op.eqItems]
  | i :: l, hl => by
    have hi := hl i (by simp)
    simp only [Op.eqItems, Sem.run_bind, hu i hi w, hv i hi w, Result.andThen_ok, he i hi d w, List.all_cons]
    cases r i with
    | false => simp
    | true => simpa using eqItems_run hu hv he d w l (fun j hj => hl j (by simp [hj]))
theorem EqF_array {P : Program} {D : Nat} {t n el k : Nat} {ie : TypeInfo} {xs ys : List Value} {us vs : Nat → Value} {r : Nat → Bool} (ht : P.underlying t = some (.array n el)) (hi : P.info? el = some ie) (hk : P.cellsOf el = k)
    (hu : ∀ i, i < n → PartF P el xs (i * k) (us i)) (hv : ∀ i, i < n → PartF P el ys (i * k) (vs i)) (he : ∀ i, i < n → EqF P D el (us i) (vs i) (r i)) : EqF P (D + 1) t (.agg xs.toArray) (.agg ys.toArray) (allB r n) := by
  intro d w
  rw [show D + 1 + d = (D + d) + 1 by omega, run_equalIn_array w (D + d) _ _ ht hi, hk]
  exact eqItems_run hu hv he d w _ (fun i hi => List.mem_range.1 hi)
section
variable {P : Program} {ty : TypeId} {e : Operand → Value} {w : World} {K : Value → World → Prop}
theorem L_eqA {D : Nat} {t u : TypeId} {x y : Operand} {xs ys : List Value} {r : Bool} (hg : P.eqGuardType P.depth t = false) (hE : EqF P D t (.agg xs.toArray) (.agg ys.toArray) r) (hD : Nat.ble D 10000 = true) (hx : e x = .agg xs.toArray) (hy : e y = .agg ys.toArray) (h : K (.bool r) w) : opW P (.binOp .eql t x y u) ty e w K := by
  refine opW_val (w' := w) ?_ h
  have h1 := hE.up (Nat.le_of_ble_eq_true hD) 0 w
  simp only [Nat.add_zero] at h1
  simp only [execOp, hx, hy, run_eqGuard_agg w .eql t x y _ _ hg, Sem.run_bind, Sem.run_pure, Result.andThen_ok, run_eql_struct, h1]
theorem L_neA {D : Nat} {t u : TypeId} {x y : Operand} {xs ys : List Value} {r : Bool} (hg : P.eqGuardType P.depth t = false) (hE : EqF P D t (.agg xs.toArray) (.agg ys.toArray) r) (hD : Nat.ble D 10000 = true) (hx : e x = .agg xs.toArray) (hy : e y = .agg ys.toArray) (h : K (.bool (!r)) w) : opW P (.binOp .neq t x y u) ty e w K := by
  refine opW_val (w' := w) ?_ h
  have h1 := hE.up (Nat.le_of_ble_eq_true hD) 0 w
  simp only [Nat.add_zero] at h1
  simp only [execOp, hx, hy, run_eqGuard_agg w .neq t x y _ _ hg, Sem.run_bind, Sem.run_pure, Result.andThen_ok, run_neq_struct, h1]
end
/-- vectors -/
theorem allB_vec (a b : Vec) : allB (fun i => decide (vat a i = vat b i)) 16 = decide (a = b) := by
  rw [Bool.eq_iff_iff, decide_eq_true_iff]
  simp only [allB, List.all_eq_true, List.mem_range, decide_eq_true_iff]
  constructor
  · intro h
    funext i
    have := h i.val i.isLt
    simpa [vat] using this
  · intro h i _
    rw [h]
theorem EqF_vec {P : Program} {t el : TypeId} {ie : TypeInfo} (ht : P.underlying t = some (.array 16 el)) (hi : P.info? el = some ie) (hk : P.cellsOf el = 1) (he : Ud P el (.int .u32)) (h1 : T1 P el) (a b : Vec) : EqF P 2 t (.agg (vc a).toArray) (.agg (vc b).toArray) (decide (a = b)) := by
  rw [← allB_vec]
  exact EqF_array ht hi hk (us := fun i => .int .u32 (vat a i)) (vs := fun i => .int .u32 (vat b i)) (fun i hi => PartF_one h1 (by rw [Nat.mul_one]; exact vc_at a i hi)) (fun i hi => PartF_one h1 (by rw [Nat.mul_one]; exact vc_at b i hi)) (fun i _ => EqF_int he)
theorem dec_dot (a b : Dot) : (decide (a.rep = b.rep) && (decide (a.seq = b.seq) && true)) = decide (a = b) := by
  cases a; cases b; simp

end Go.Vx
