/- The program's plain data, and how they lie in cells. -/
import Derived.Test.YtnanhhiofnohbaaVxC
namespace Go.Vx

/-! ## vectors -/
abbrev Vec := Fin 16 → Int
instance : DecidableEq Vec := fun a b => decidable_of_iff (∀ i, a i = b i) funext_iff.symm
def vc (v : Vec) : List Value :=
  [.int .u32 (v 0), .int .u32 (v 1), .int .u32 (v 2), .int .u32 (v 3), .int .u32 (v 4), .int .u32 (v 5), .int .u32 (v 6), .int .u32 (v 7),
   .int .u32 (v 8), .int .u32 (v 9), .int .u32 (v 10), .int .u32 (v 11), .int .u32 (v 12), .int .u32 (v 13), .int .u32 (v 14), .int .u32 (v 15)]
def vat (v : Vec) (i : Nat) : Int := if h : i < 16 then v ⟨i, h⟩ else 0
def vset (v : Vec) (i : Nat) (x : Int) : Vec := fun j => if j.val = i then x else v j
def vzero : Vec := fun _ => 0
def VecOk (v : Vec) : Prop := ∀ i, 0 ≤ v i ∧ v i < 4294967296
theorem lt16 {P : Nat → Prop} (h : ∀ i : Fin 16, P i.val) : ∀ i, i < 16 → P i := fun i hi => h ⟨i, hi⟩
theorem vc_len (v : Vec) : (vc v).length = 16 := rfl
theorem vc_at (v : Vec) (i : Nat) (h : i < 16) : (vc v)[i]? = some (.int .u32 (vat v i)) := by
  have : i = 0 ∨ i = 1 ∨ i = 2 ∨ i = 3 ∨ i = 4 ∨ i = 5 ∨ i = 6 ∨ i = 7 ∨ i = 8 ∨ i = 9 ∨ i = 10 ∨ i = 11 ∨ i = 12 ∨ i = 13 ∨ i = 14 ∨ i = 15 := by omega
  rcases this with h | h | h | h | h | h | h | h | h | h | h | h | h | h | h | h <;> subst h <;> rfl
theorem vc_set (v : Vec) (i : Nat) (h : i < 16) (x : Int) : (vc v).set i (.int .u32 x) = vc (vset v i x) := by
  have : i = 0 ∨ i = 1 ∨ i = 2 ∨ i = 3 ∨ i = 4 ∨ i = 5 ∨ i = 6 ∨ i = 7 ∨ i = 8 ∨ i = 9 ∨ i = 10 ∨ i = 11 ∨ i = 12 ∨ i = 13 ∨ i = 14 ∨ i = 15 := by omega
  rcases this with h | h | h | h | h | h | h | h | h | h | h | h | h | h | h | h <;> subst h <;> rfl
theorem vc_atO {v : Vec} {i o : Nat} (h : i < 16) (ho : o = i) : (vc v)[o]? = some (.int .u32 (vat v i)) := by subst ho; exact vc_at v _ h
theorem vc_setO {v : Vec} {i o : Nat} {x : Int} (h : i < 16) (ho : o = i) : (vc v).set o (.int .u32 x) = vc (vset v i x) := by subst ho; exact vc_set v _ h x
theorem vc_lt {v : Vec} {o : Nat} (h : o < 16) : o < (vc v).length := h
theorem vc_inj {u v : Vec} (h : vc u = vc v) : u = v := by
  funext i
  have := vc_at u i.val i.isLt
  rw [h, vc_at v i.val i.isLt] at this
  simpa [vat] using this.symm
theorem vc_one (v : Vec) : ∀ x ∈ vc v, x.oneCell' = true := by
  intro x hx
  simp only [vc, List.mem_cons, List.not_mem_nil, or_false] at hx
  rcases hx with h | h | h | h | h | h | h | h | h | h | h | h | h | h | h | h <;> subst h <;> rfl
theorem vat_ok {v : Vec} (h : VecOk v) (i : Nat) : 0 ≤ vat v i ∧ vat v i < 4294967296 := by
  unfold vat; split
  · exact h _
  · omega
theorem vset_ok {v : Vec} (h : VecOk v) (i : Nat) {x : Int} (h0 : 0 ≤ x) (h1 : x < 4294967296) : VecOk (vset v i x) := by
  intro j; unfold vset; split
  · exact ⟨h0, h1⟩
  · exact h j
theorem vzero_ok : VecOk vzero := fun _ => by unfold vzero; omega
theorem vat_vset (v : Vec) (i j : Nat) (x : Int) (h : j < 16) : vat (vset v i x) j = if j = i then x else vat v j := by
  unfold vat vset; simp [h]

/-! ## dots -/
structure Dot where
  rep : Int
  seq : Int
  deriving DecidableEq
def dc (d : Dot) : List Value := [.int .u8 d.rep, .int .u32 d.seq]
def DotOk (d : Dot) : Prop := (0 ≤ d.rep ∧ d.rep < 256) ∧ 0 ≤ d.seq ∧ d.seq < 4294967296
theorem dc_inj {a b : Dot} (h : dc a = dc b) : a = b := by
  cases a; cases b; simp [dc] at h; simp [h]
theorem dc_one (d : Dot) : ∀ x ∈ dc d, x.oneCell' = true := by
  intro x hx; simp only [dc, List.mem_cons, List.not_mem_nil, or_false] at hx; rcases hx with h | h <;> subst h <;> rfl

/-! ## operations -/
structure Opn where
  dot : Dot
  kind : Int
  cart : Int
  item : Int
  qty : Int
  tick : Int
  ctx : Vec
def oc (o : Opn) : List Value :=
  [.int .u8 o.dot.rep, .int .u32 o.dot.seq, .int .u8 o.kind, .int .u16 o.cart, .int .u16 o.item, .int .u16 o.qty, .int .u32 o.tick,
   .int .u32 (o.ctx 0), .int .u32 (o.ctx 1), .int .u32 (o.ctx 2), .int .u32 (o.ctx 3), .int .u32 (o.ctx 4), .int .u32 (o.ctx 5), .int .u32 (o.ctx 6), .int .u32 (o.ctx 7),
   .int .u32 (o.ctx 8), .int .u32 (o.ctx 9), .int .u32 (o.ctx 10), .int .u32 (o.ctx 11), .int .u32 (o.ctx 12), .int .u32 (o.ctx 13), .int .u32 (o.ctx 14), .int .u32 (o.ctx 15)]
end Go.Vx
namespace Go.Vx
theorem vc_atA {v : Vec} {R : List Value} {i o : Nat} (h : i < 16) (ho : o = i) : (vc v ++ R)[o]? = some (.int .u32 (vat v i)) := by
  subst ho; rw [List.getElem?_append_left (by rw [vc_len]; exact h)]; exact vc_at v _ h
theorem vc_setA {v : Vec} {R : List Value} {i o : Nat} {x : Int} (h : i < 16) (ho : o = i) : (vc v ++ R).set o (.int .u32 x) = vc (vset v i x) ++ R := by
  subst ho; rw [List.set_append_left _ _ (by rw [vc_len]; exact h), vc_set v _ h x]
theorem vc_ltA {v : Vec} {R : List Value} {o : Nat} (h : o < 16) : o < (vc v ++ R).length := by
  rw [List.length_append, vc_len]; omega
end Go.Vx
namespace Go.Vx
theorem dotOk_mk {x y : Int} (h1 : 0 ≤ x) (h2 : x < 256) (h3 : 0 ≤ y) (h4 : y < 4294967296) : DotOk ⟨x, y⟩ := ⟨⟨h1, h2⟩, h3, h4⟩
end Go.Vx
