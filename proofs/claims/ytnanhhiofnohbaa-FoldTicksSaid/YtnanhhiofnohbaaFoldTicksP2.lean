/- A part of a proof: what functions of the program compute, and plain facts on that. -/
import Derived.Test.YtnanhhiofnohbaaFoldTicksP1
import Derived.Shelf.SlSortCmp.Xorshift
import Derived.Laws.Bits64b
import Derived.Sort.LotD5
import Derived.WideKeyEntry
import Derived.KernelRfl
import Derived.Test.YtnanhhiofnohbaaProg
set_option linter.unusedVariables false
set_option linter.unusedSimpArgs false
namespace Go.Vx
open Go.RowKit Go.Shelf
theorem Own.drewN {w0 w : World} {M : Nat → Prop} {L : List Res} (h : Own w0 M w L) (n : Nat) : Own w0 M (w.drewN n) L := by
  obtain ⟨a, b, c, d, e, S, f, g, i, j⟩ := h
  exact ⟨a, ⟨b.1, Nat.le_trans b.2 (Nat.le_add_right _ _)⟩, c, d, e, S, fun k R hk => R.loc w _ _ (fun _ _ => rfl) (f k R hk), g, i, j⟩
theorem xor_ok {P : Program} {ρ : Ren} (L : Go.Proofs.SlLaysF0.n48 P ρ) (T : TypeId) (w : World) (S : Nat → Prop) (rb X : Nat) (hX : X < 18446744073709551616) (hR : (blk rb [.int .u64 ((X : Nat) : Int)] T).holds w S) (hlt : ∀ x, S x → x < w.heap.size) :
    Calls P (ρ.f 48) #[.pointer (some ⟨rb, 0, none⟩)] w (fun e w' => ∃ _u : Unit, e = .returned (.int .u64 ((Sort.xorNextN X : Nat) : Int)) ∧ Own w S w' [blk rb [.int .u64 ((Sort.xorNextN X : Nat) : Int)] T] ∧ True) := by
  have hs := Own.lent hR hlt
  have hb := hR.2
  refine (Go.Proofs.AnyF.xorshift_Next L rb 0 X hX w ?_ ?_).mono ?_
  · rw [cell_of_row w rb 0 _ T _ hb]; rfl
  · exact frozen_of_row w rb 0 _ T hb
  · rintro e w' ⟨he, rfl⟩
    refine ⟨(), he, ?_, trivial⟩
    rw [setCell_eq_setRow w rb 0 _ T (0, 0) _ hb]
    exact (hs.set_blk 0 rfl (cs' := [.int .u64 ((Sort.xorNextN X : Nat) : Int)])).drewN 3
theorem pow_ok {P : Program} {ρ : Ren} (L : Go.Proofs.SlLaysF0.n47 P ρ) (w : World) (n : Nat) (hn : n < 4611686018427387904) :
    Calls P (ρ.f 47) #[.int .i64 ((n : Nat) : Int)] w (fun e w' => e = .returned (.int .u64 (((1 <<< Sort.bitsLen n : Nat) : Nat) : Int)) ∧ Own w no w' []) :=
  (Go.Proofs.AnyF.nextPowerOfTwo L n hn w).mono fun e w' ⟨he, hw⟩ => by subst hw; exact ⟨he, Own.start _⟩
theorem and_nat {a b : Nat} (ha : a < 18446744073709551616) (hb : b < 18446744073709551616) : bits .and .u64 (a : Int) (b : Int) = ((a &&& b : Nat) : Int) := bits_and_u64_nat a b ha hb
def bpS (lo len md : Nat) (s0 : UInt64 × Array Int) (i0 : Nat) : Nat → UInt64 × Array Int
  | 0 => s0
  | q + 1 => Sort.breakStep lo len md (bpS lo len md s0 i0 q) (i0 + q)
def otherN (lo len md r : Nat) : Nat := if (Sort.xorNextN r &&& (md - 1)) ≥ len then (Sort.xorNextN r &&& (md - 1)) - len else Sort.xorNextN r &&& (md - 1)
theorem bpS_next {lo len md i0 q : Nat} {s0 : UInt64 × Array Int} : ((bpS lo len md s0 i0 (q + 1)).1.toNat = Sort.xorNextN (bpS lo len md s0 i0 q).1.toNat) ∧ (bpS lo len md s0 i0 (q + 1)).2 = Sort.swp (bpS lo len md s0 i0 q).2 (i0 + q) (lo + otherN lo len md (bpS lo len md s0 i0 q).1.toNat) := by
  constructor
  · show (Sort.xorNext _).toNat = _
    rw [Sort.xorNext_toNat]
  · show Sort.swp _ _ _ = _
    unfold otherN
    rw [← Sort.xorNext_toNat]
theorem bpS_end {d : Array Int} {lo hi : Nat} (h : 8 ≤ hi - lo) : (bpS lo (hi - lo) (1 <<< Sort.bitsLen (hi - lo)) (UInt64.ofNat (hi - lo), d) (lo + ((hi - lo) / 4) * 2 - 1) 3).2 = Sort.breakPatterns d lo hi := by
  unfold Sort.breakPatterns
  dsimp only
  rw [if_pos h]
  rfl
theorem md_ok {n : Nat} (h : 0 < n) : n < 1 <<< Sort.bitsLen n ∧ 1 <<< Sort.bitsLen n ≤ 2 * n := by
  rw [Nat.one_shiftLeft]; exact ⟨Sort.lt_two_pow_bitsLen n, Sort.two_pow_bitsLen_le h⟩
theorem other_lt {lo len r : Nat} (h : 0 < len) : otherN lo len (1 <<< Sort.bitsLen len) r < len := by
  have hm := md_ok h
  have := Nat.and_le_right (n := Sort.xorNextN r) (m := 1 <<< Sort.bitsLen len - 1)
  unfold otherN; split <;> omega
end Go.Vx
namespace Go.Vx
open Go.RowKit Go.Shelf
def XorC (P : Program) (f T : Nat) : Prop := ∀ (w : World) (S : Nat → Prop) (rb X : Nat), X < 18446744073709551616 → (blk rb [.int .u64 ((X : Nat) : Int)] T).holds w S → (∀ x, S x → x < w.heap.size) →
    Calls P f #[.pointer (some ⟨rb, 0, none⟩)] w (fun e w' => ∃ _u : Unit, e = .returned (.int .u64 ((Sort.xorNextN X : Nat) : Int)) ∧ Own w S w' [blk rb [.int .u64 ((Sort.xorNextN X : Nat) : Int)] T] ∧ True)
def PowC (P : Program) (f : Nat) : Prop := ∀ (w : World) (n : Nat), n < 4611686018427387904 → Calls P f #[.int .i64 ((n : Nat) : Int)] w (fun e w' => e = .returned (.int .u64 (((1 <<< Sort.bitsLen n : Nat) : Nat) : Int)) ∧ Own w no w' [])
def LenC (P : Program) (f : Nat) : Prop := ∀ (w : World) (n : Nat), n < 4611686018427387904 → Calls P f #[.int .u64 ((n : Nat) : Int)] w (fun e w' => e = .returned (.int .i64 ((Sort.bitsLen n : Nat) : Int)) ∧ Own w no w' [])
theorem bpS_size {lo len md i0 N : Nat} {s0 : UInt64 × Array Int} (h : s0.2.size = N) : ∀ q, (bpS lo len md s0 i0 q).2.size = N
  | 0 => h
  | q + 1 => by rw [bpS_next.2, Sort.size_swp]; exact bpS_size h q
end Go.Vx
namespace Go.Vx
open Go.RowKit
def SortI (P : Program) (f : Nat) (k : IntKind) (E : Nat) : Prop := ∀ (w : World) (S : Nat → Prop) (a : Option Addr) (c : Nat) (l : List Int), (row (.slice a l.length c) (l.map (ic k)) E 1).holds w S → (∀ x, S x → x < w.heap.size) → l.length ≤ 2305843009213693951 →
    Calls P f #[.slice a l.length c] w fun e w' => e = .returned (.tuple #[]) ∧ Own w S w' [row (.slice a l.length c) ((sortI l).map (ic k)) E 1]
end Go.Vx
namespace Go.Vx
theorem leI_trans (a b c : Int) (h1 : leI a b = true) (h2 : leI b c = true) : leI a c = true := by unfold leI at *; simp at *; omega
theorem leI_total (a b : Int) : (leI a b || leI b a) = true := by unfold leI; simp; omega
theorem sortedI_unique : ∀ {l m : List Int}, l.Perm m → l.Pairwise (fun x y => leI x y = true) → m.Pairwise (fun x y => leI x y = true) → l = m
  | [], m, h, _, _ => by have := h.length_eq; simp at this; exact (List.eq_nil_of_length_eq_zero this.symm).symm
  | a :: l, [], h, _, _ => by have := h.length_eq; simp at this
  | a :: l, b :: m, h, h1, h2 => by
    rw [List.pairwise_cons] at h1 h2
    have hab : a = b := by
      have ha : a ∈ b :: m := h.subset (by simp)
      have hb : b ∈ a :: l := h.symm.subset (by simp)
      rcases List.mem_cons.1 ha with e | ha
      · exact e
      · rcases List.mem_cons.1 hb with e | hb
        · exact e.symm
        · have := h1.1 b hb; have := h2.1 a ha; unfold leI at *; simp at *; omega
    subst hab
    rw [sortedI_unique (List.Perm.cons_inv h) h1.2 h2.2]
theorem sortI_perm {l m : List Int} (h : l.Perm m) : sortI l = sortI m :=
  sortedI_unique ((List.mergeSort_perm l leI).trans (h.trans (List.mergeSort_perm m leI).symm)) (List.pairwise_mergeSort leI_trans leI_total l) (List.pairwise_mergeSort leI_trans leI_total m)
theorem sortI_len (l : List Int) : (sortI l).length = l.length := List.length_mergeSort l
theorem sortI_rising {l : List Int} (h : l.Nodup) : (sortI l).Pairwise (· < ·) := by
  have h1 : (sortI l).Pairwise (fun x y => leI x y = true) := List.pairwise_mergeSort leI_trans leI_total l
  have h2 : (sortI l).Nodup := (List.mergeSort_perm l leI).nodup_iff.2 h
  refine (h1.and h2).imp fun {a b} ⟨h3, h4⟩ => ?_
  unfold leI at h3
  have := of_decide_eq_true h3
  have h4' : a ≠ b := h4
  omega
theorem int_inj {k : IntKind} {a b : Int} (h : Value.int k a = Value.int k b) : a = b := by simpa using h
theorem sorted_of {k : IntKind} {ks m : List Int} (h : (m.map (Value.int k)).Perm (ks.map (Value.int k))) : sortI m = sortI ks := sortI_perm (perm_of_map (fun _ _ => int_inj) h)
section
variable {L : List Opn} {cart : Int} {k : Nat} {s : VSt}
theorem vs_skip (h : s = vst L cart k) (hk : k < L.length) (hc : ¬ (gd L k).cart = cart) : s = vst L cart (k + 1) := by
  rw [vst_next hk, ← h]; unfold vstep; rw [if_neg hc]
theorem vs_dead (h : s = vst L cart k) (hk : k < L.length) (hc : (gd L k).cart = cart) (hl : liveB L (gd L k) = false) : (⟨max s.tick (gd L k).tick, s.out, s.items⟩ : VSt) = vst L cart (k + 1) := by
  rw [vst_next hk, ← h]; unfold vstep; rw [if_pos hc, if_neg (by rw [hl]; exact Bool.false_ne_true)]
theorem vs_out (h : s = vst L cart k) (hk : k < L.length) (hc : (gd L k).cart = cart) (hl : liveB L (gd L k) = true) (h4 : (gd L k).kind = 4) : (⟨max s.tick (gd L k).tick, true, s.items⟩ : VSt) = vst L cart (k + 1) := by
  rw [vst_next hk, ← h]; unfold vstep; rw [if_pos hc, if_pos hl, if_pos h4]
theorem vs_take (h : s = vst L cart k) (hk : k < L.length) (hc : (gd L k).cart = cart) (hl : liveB L (gd L k) = true) (h4 : ¬ (gd L k).kind = 4) : (⟨max s.tick (gd L k).tick, s.out, mput (gd L k).item (takeT ((mget (gd L k).item s.items).getD tz) (gd L k)) s.items⟩ : VSt) = vst L cart (k + 1) := by
  rw [vst_next hk, ← h]; unfold vstep; rw [if_pos hc, if_pos hl, if_neg h4]
end
theorem mget_put {κ ν : Type} [DecidableEq κ] {k x : κ} {v : ν} : ∀ {l : List (κ × ν)}, mget x (mput k v l) = if x = k then some v else mget x l
  | [] => by unfold mput mget; split <;> rfl
  | (a, b) :: l => by
    unfold mput
    split
    · rename_i e
      subst e
      unfold mget
      split <;> rename_i h
      · rfl
      · rfl
    · rename_i e
      unfold mget
      split
      · rename_i h; subst h; rw [if_neg (fun h => e h.symm)]
      · exact mget_put
theorem take_ctx {t : Tal} {o : Opn} (ht : VecOk t.set.ctx) (ho : VecOk o.ctx) : VecOk (takeT t o).set.ctx := by
  unfold takeT; split
  · exact ht
  · split
    · exact ho
    · exact ht
theorem tz_ctx : VecOk tz.set.ctx := vzero_ok
theorem vst_ctx {L : List Opn} {cart : Int} (hL : ∀ o ∈ L, OpnOk o) : ∀ k, k ≤ L.length → ∀ n, VecOk (((mget n (vst L cart k).items).getD tz).set.ctx)
  | 0, _, n => tz_ctx
  | k + 1, hk, n => by
    have ih := vst_ctx (cart := cart) hL k (by omega)
    rw [vst_next (by omega)]
    unfold vstep
    split
    · split
      · split
        · exact ih n
        · show VecOk ((mget n (mput _ _ _)).getD tz).set.ctx
          rw [mget_put]
          split
          · exact take_ctx (ih _) (hL _ (gd_mem (by omega))).2.2.2.2.2.2
          · exact ih n
      · exact ih n
    · exact ih n
theorem vst_items {L : List Opn} {cart : Int} : ∀ k, k ≤ L.length → (vst L cart k).items.length ≤ k
  | 0, _ => Nat.le_refl _
  | k + 1, hk => by
    have ih := vst_items (L := L) (cart := cart) k (by omega)
    rw [vst_next (by omega)]
    unfold vstep
    split
    · split
      · split
        · exact Nat.le_succ_of_le ih
        · show (mput _ _ _).length ≤ _
          have := congrArg List.length (mput_keys (k := (gd L k).item) (v := takeT ((mget (gd L k).item (vst L cart k).items).getD tz) (gd L k)) (l := (vst L cart k).items))
          rw [List.length_map] at this
          rw [this]; split
          · rw [List.length_map]; omega
          · rw [List.length_append, List.length_map]; simp; omega
      · exact Nat.le_succ_of_le ih
    · exact Nat.le_succ_of_le ih
end Go.Vx
namespace Go.Vx
theorem mput_len {κ ν : Type} [DecidableEq κ] {k : κ} {v : ν} {l : List (κ × ν)} : (mput k v l).length ≤ l.length + 1 := by
  have := congrArg List.length (mput_keys (k := k) (v := v) (l := l))
  rw [List.length_map] at this
  rw [this]; split
  · rw [List.length_map]; omega
  · rw [List.length_append, List.length_map]; simp
theorem take_all {α : Type} {l : List α} {k : Nat} (h : ¬ k < l.length) : l.take k = l := List.take_of_length_le (by omega)
theorem map_next {α β : Type} [Inhabited α] {f : α → β} {l : List α} {k : Nat} {out : List β} (h : out = (l.take k).map f) (hk : k < l.length) : out ++ [f (gd l k)] = (l.take (k + 1)).map f := by
  rw [take_gd hk, List.map_append, ← h]; rfl
def allD (m : List (Dot × Unit)) (rep n : Int) : Bool := (List.range (min n 1048576).toNat).all fun j => (mget (⟨rep, ((j + 1 : Nat) : Int)⟩ : Dot) m).isSome
theorem allD_yes {m : List (Dot × Unit)} {rep n : Int} {k : Nat} (h : ∀ j : Nat, j < k → (mget (⟨rep, ((j + 1 : Nat) : Int)⟩ : Dot) m).isSome = true) (hk : ¬ ((k + 1 : Nat) : Int) ≤ min n 1048576) : allD m rep n = true := by
  unfold allD; rw [List.all_eq_true]; intro j hj; rw [List.mem_range] at hj; exact h j (by omega)
theorem allD_no {m : List (Dot × Unit)} {rep n : Int} {k : Nat} (hk : ((k + 1 : Nat) : Int) ≤ min n 1048576) (h : (mget (⟨rep, ((k + 1 : Nat) : Int)⟩ : Dot) m).isSome = false) : allD m rep n = false := by
  unfold allD; rw [List.all_eq_false]; exact ⟨k, List.mem_range.2 (by omega), by rw [h]; decide⟩
theorem yes_step {p : Nat → Bool} {k : Nat} (h : ∀ j : Nat, j < k → p j = true) (hk : p k = true) : ∀ j : Nat, j < k + 1 → p j = true := by
  intro j hj
  by_cases e : j = k
  · subst e; exact hk
  · exact h j (by omega)
def seenM (l : List Opn) (k : Nat) : List (Dot × Unit) := (l.take k).foldl (fun m o => mput o.dot () m) []
theorem seenM_next {l : List Opn} {k : Nat} (h : k < l.length) : seenM l (k + 1) = mput (gd l k).dot () (seenM l k) := by
  unfold seenM; rw [take_gd h, List.foldl_append]; rfl
def badC (l : List Opn) (k : Nat) : Bool := (((mget (gd l k).dot (seenM l k)).isSome || decide (16 ≤ (gd l k).dot.rep)) || decide ((gd l k).dot.seq < 1)) || decide (1048576 < (gd l k).dot.seq)
def knownC (l : List Opn) (o : Opn) : Bool := (List.range 16).all fun r => allD (seenM l l.length) (r : Int) (vat o.ctx r)
def closedP (l : List Opn) : Bool := ((List.range l.length).all fun k => !badC l k) && l.all fun o => knownC l o
theorem closed_bad {l : List Opn} {k : Nat} (hk : k < l.length) (h : badC l k = true) : closedP l = false := by
  unfold closedP
  rw [Bool.and_eq_false_iff]; left
  rw [List.all_eq_false]; exact ⟨k, List.mem_range.2 hk, by simp [h]⟩
theorem closed_no {l : List Opn} {k r : Nat} (hk : k < l.length) (hr : r < 16) (h : allD (seenM l l.length) (r : Int) (vat (gd l k).ctx r) = false) : closedP l = false := by
  unfold closedP
  rw [Bool.and_eq_false_iff]; right
  rw [List.all_eq_false]
  refine ⟨gd l k, gd_mem hk, ?_⟩
  unfold knownC
  rw [Bool.not_eq_true, List.all_eq_false]; exact ⟨r, List.mem_range.2 hr, by simp [h]⟩
theorem closed_yes {l : List Opn} (h1 : ∀ j : Nat, j < l.length → badC l j = false) (h2 : ∀ j : Nat, j < l.length → knownC l (gd l j) = true) : closedP l = true := by
  unfold closedP
  rw [Bool.and_eq_true, List.all_eq_true, List.all_eq_true]
  refine ⟨fun k hk => by rw [h1 k (List.mem_range.1 hk)]; rfl, fun o ho => ?_⟩
  obtain ⟨j, hj, rfl⟩ := List.mem_iff_getElem.1 ho
  have := h2 j hj
  simpa [gd, hj] using this
theorem known_all {l : List Opn} {o : Opn} (h : ∀ r : Nat, r < 16 → allD (seenM l l.length) (r : Int) (vat o.ctx r) = true) : knownC l o = true := by
  unfold knownC; rw [List.all_eq_true]; intro r hr; exact h r (List.mem_range.1 hr)
end Go.Vx
namespace Go.Vx
theorem take_qty {t : Tal} {o : Opn} (ht : 0 ≤ t.set.qty ∧ t.set.qty < 65536) (ho : 0 ≤ o.qty ∧ o.qty < 65536) : 0 ≤ (takeT t o).set.qty ∧ (takeT t o).set.qty < 65536 := by
  unfold takeT; split
  · exact ht
  · split
    · exact ho
    · exact ht
theorem vst_qty {L : List Opn} {cart : Int} (hL : ∀ o ∈ L, OpnOk o) : ∀ k, k ≤ L.length → ∀ n, 0 ≤ ((mget n (vst L cart k).items).getD tz).set.qty ∧ ((mget n (vst L cart k).items).getD tz).set.qty < 65536
  | 0, _, n => by show (0 : Int) ≤ 0 ∧ (0 : Int) < 65536; decide
  | k + 1, hk, n => by
    have ih := vst_qty (cart := cart) hL k (by omega)
    rw [vst_next (by omega)]
    unfold vstep
    split
    · split
      · split
        · exact ih n
        · show 0 ≤ ((mget n (mput _ _ _)).getD tz).set.qty ∧ _
          rw [mget_put]
          split
          · exact take_qty (ih _) (hL _ (gd_mem (by omega))).2.2.2.2.1
          · exact ih n
      · exact ih n
    · exact ih n
end Go.Vx
namespace Go.Vx
structure UpTo (cs : List Int) (last : Int) (out : List Int) : Prop where
  inc : out.Pairwise (· < ·)
  mem : ∀ x, x ∈ out ↔ x ∈ cs ∧ x ≤ last
end Go.Vx
namespace Go.Vx
def aliveA : Opn := ⟨⟨0, 1⟩, 1, 3, 4, 2, 5, vzero⟩
def aliveB : Opn := ⟨⟨1, 1⟩, 1, 3, 4, 3, 9, vzero⟩
def aliveC : Opn := ⟨⟨2, 1⟩, 2, 3, 4, 1, 7, vset vzero 0 1⟩
theorem alive_ok : OpnOk aliveA ∧ OpnOk aliveB ∧ OpnOk aliveC := by
  have hv : VecOk (vset vzero 0 1) := vset_ok vzero_ok 0 (by decide) (by decide)
  have hz := vzero_ok
  unfold aliveA aliveB aliveC OpnOk DotOk
  refine ⟨⟨?_, ?_, ?_, ?_, ?_, ?_, hz⟩, ⟨?_, ?_, ?_, ?_, ?_, ?_, hz⟩, ⟨?_, ?_, ?_, ?_, ?_, ?_, hv⟩⟩ <;> decide
theorem sortI_one (x : Int) : sortI [x] = [x] := sortedI_unique (List.mergeSort_perm [x] leI) (List.pairwise_mergeSort leI_trans leI_total [x]) (by simp)
theorem sortI_nil : sortI [] = [] := List.eq_nil_of_length_eq_zero (sortI_len [])
theorem viewP_of {l : List Opn} {cart : Int} {s : VSt} {ks : List Int} (h : vst l cart l.length = s) (hk : sortI (s.items.map (·.1)) = ks) : viewP l cart = ⟨cart, ks.map (lineOf s.items), s.out, s.tick⟩ := by
  unfold viewP; dsimp only; rw [h, hk]
theorem aliveV1 : viewP [aliveA, aliveB] 3 = ⟨3, [⟨4, 5⟩], false, 9⟩ := by
  rw [viewP_of (s := ⟨9, false, [(4, ⟨5, tz.set, false⟩)]⟩) (ks := [4]) (by rfl) (sortI_one 4)]; rfl
theorem aliveV2 : viewP [aliveA, aliveB, aliveC] 3 = ⟨3, [⟨4, 4⟩], false, 9⟩ := by
  rw [viewP_of (s := ⟨9, false, [(4, ⟨3, aliveC, true⟩)]⟩) (ks := [4]) (by rfl) (sortI_one 4)]; rfl
theorem aliveV3 : viewP [aliveA] 2 = ⟨2, [], false, 0⟩ := by
  rw [viewP_of (s := ⟨0, false, []⟩) (ks := []) (by rfl) sortI_nil]; rfl
theorem aliveC1 : closedP [aliveC, aliveA] = true := by decide
theorem aliveC2 : closedP [aliveC] = false := by decide
end Go.Vx
namespace Go.Vx
def vfold (L : List Opn) (cart : Int) (l : List Opn) : VSt := l.foldl (vstep L cart) ⟨0, false, []⟩
theorem vst_all (l : List Opn) (cart : Int) : vst l cart l.length = vfold l cart l := by unfold vst vfold; rw [List.take_length]
theorem vfold_snoc (L : List Opn) (cart : Int) (l : List Opn) (o : Opn) : vfold L cart (l ++ [o]) = vstep L cart (vfold L cart l) o := by unfold vfold; rw [List.foldl_append]; rfl
theorem snoc_ind {α : Type} {motive : List α → Prop} (h0 : motive []) (h1 : ∀ l a, motive l → motive (l ++ [a])) : ∀ l, motive l := by
  suffices key : ∀ (n : Nat) (l : List α), l.length = n → motive l from fun l => key _ l rfl
  intro n
  induction n with
  | zero => intro l hl; rw [List.eq_nil_of_length_eq_zero hl]; exact h0
  | succ n ih =>
    intro l hl
    rcases List.eq_nil_or_concat l with h | ⟨m, a, h⟩
    · subst h; simp at hl
    · rw [List.concat_eq_append] at h
      subst h
      exact h1 m a (ih m (by simpa using hl))
theorem vstep_tick {L : List Opn} {cart : Int} {s : VSt} {o : Opn} : (vstep L cart s o).tick = if o.cart = cart then max s.tick o.tick else s.tick := by
  unfold vstep; split <;> (try rfl); split <;> (try rfl); split <;> rfl
theorem tick_facts (L : List Opn) (cart : Int) : ∀ l, (∀ o ∈ l, o.cart = cart → o.tick ≤ (vfold L cart l).tick) ∧ ((vfold L cart l).tick = 0 ∨ ∃ o ∈ l, o.cart = cart ∧ o.tick = (vfold L cart l).tick) := by
  refine snoc_ind ⟨fun o ho => (by cases ho), Or.inl rfl⟩ fun l a ih => ?_
  rw [vfold_snoc, vstep_tick]
  refine ⟨fun o ho hc => ?_, ?_⟩
  · rcases List.mem_append.1 ho with ho | ho
    · have := ih.1 o ho hc; split <;> omega
    · simp at ho; subst ho; rw [if_pos hc]; omega
  · split
    · rename_i hc
      rcases Int.lt_or_le (vfold L cart l).tick a.tick with h | h
      · right; exact ⟨a, by simp, hc, by omega⟩
      · rcases ih.2 with h0 | ⟨o, ho, h1, h2⟩
        · left; omega
        · right; exact ⟨o, by simp [ho], h1, by omega⟩
    · rcases ih.2 with h0 | ⟨o, ho, h1, h2⟩
      · exact .inl h0
      · exact .inr ⟨o, by simp [ho], h1, h2⟩
theorem view_tick_eq (l : List Opn) (cart : Int) : (viewP l cart).tick = (vfold l cart l).tick := by unfold viewP; rw [← vst_all]
theorem view_tick_le (l : List Opn) (cart : Int) (o : Opn) (ho : o ∈ l) (hc : o.cart = cart) : o.tick ≤ (viewP l cart).tick := by rw [view_tick_eq]; exact (tick_facts l cart l).1 o ho hc
theorem view_tick (l : List Opn) (cart : Int) : (decide ((viewP l cart).tick = 0) || l.any fun o : Opn => decide (o.cart = cart) && decide (o.tick = (viewP l cart).tick)) = true := by
  rw [view_tick_eq, Bool.or_eq_true, decide_eq_true_iff, List.any_eq_true]
  rcases (tick_facts l cart l).2 with h | ⟨o, ho, h1, h2⟩
  · exact .inl h
  · exact .inr ⟨o, ho, by simp [h1, h2]⟩
theorem vstep_keys {L : List Opn} {cart : Int} {s : VSt} {o : Opn} (h : (s.items.map (·.1)).Nodup) : ((vstep L cart s o).items.map (·.1)).Nodup := by
  unfold vstep
  split
  · split
    · split
      · exact h
      · show ((mput _ _ _).map _).Nodup
        rw [mput_keys]
        split
        · exact h
        · rename_i hn
          rw [List.nodup_append]
          exact ⟨h, by simp, fun a ha b hb => by simp at hb; subst hb; exact fun e => hn (e ▸ ha)⟩
    · exact h
  · exact h
theorem vfold_keys (L : List Opn) (cart : Int) : ∀ l, ((vfold L cart l).items.map (·.1)).Nodup := snoc_ind (by simp [vfold]) fun l a ih => by rw [vfold_snoc]; exact vstep_keys ih
theorem view_lines (l : List Opn) (cart : Int) : (viewP l cart).lines = (sortI ((vfold l cart l).items.map (·.1))).map (lineOf (vfold l cart l).items) := by unfold viewP; rw [← vst_all]
theorem view_len (l : List Opn) (cart : Int) : (viewP l cart).lines.length ≤ l.length := by
  rw [view_lines, List.length_map, sortI_len, List.length_map, ← vst_all]
  exact vst_items _ (Nat.le_refl _)
theorem gd_map {α β : Type} [Inhabited α] [Inhabited β] {f : α → β} {l : List α} {i : Nat} (h : i < l.length) : gd (l.map f) i = f (gd l i) := by simp [gd, h]
theorem view_rising (l : List Opn) (cart : Int) {i : Nat} (h : i + 1 < (viewP l cart).lines.length) : (gd (viewP l cart).lines i).item < (gd (viewP l cart).lines (i + 1)).item := by
  rw [view_lines] at *
  rw [List.length_map] at h
  rw [gd_map (by omega), gd_map h]
  show gd (sortI _) i < gd (sortI _) (i + 1)
  have hr := sortI_rising (vfold_keys l cart l)
  rw [List.pairwise_iff_getElem] at hr
  have := hr i (i + 1) (by omega) h (by omega)
  simpa [gd, h, show i < (sortI ((vfold l cart l).items.map (·.1))).length by omega] using this
structure IsClosed (l : List Opn) : Prop where
  nd : (l.map (·.dot)).Nodup
  dot : ∀ o ∈ l, dotB o.dot = true
  known : ∀ o ∈ l, ∀ r : Nat, r < 16 → ∀ j : Nat, ((j + 1 : Nat) : Int) ≤ min (vat o.ctx r) 1048576 → (⟨(r : Int), ((j + 1 : Nat) : Int)⟩ : Dot) ∈ l.map (·.dot)
end Go.Vx
namespace Go.Vx
open Go.RowKit Go.ChangeShapes Go.WideShapes Go.ChangeAt
theorem O_opn {P : Program} {t td tv : TypeId} {f0 f1 f2 f3 f4 f5 f6 : Field} (ht : P.underlying t = some (.struct #[f0, f1, f2, f3, f4, f5, f6]))
    (hoff : [f0.offset, f1.offset, f2.offset, f3.offset, f4.offset, f5.offset, f6.offset] = [0, 2, 3, 4, 5, 6, 7])
    (hty : [f0.type, f6.type] = [td, tv])
    (hD : OpenT P td dc DotOk) (hV : OpenT P tv vc VecOk)
    (u1 : P.underlying f1.type = some (.int .u8)) (u2 : P.underlying f2.type = some (.int .u16)) (u3 : P.underlying f3.type = some (.int .u16)) (u4 : P.underlying f4.type = some (.int .u16)) (u5 : P.underlying f5.type = some (.int .u32))
    (hc : [P.cellsOf f0.type, P.cellsOf f1.type, P.cellsOf f2.type, P.cellsOf f3.type, P.cellsOf f4.type, P.cellsOf f5.type, P.cellsOf f6.type] = [2, 1, 1, 1, 1, 1, 16]) (hct : P.cellsOf t = 23) : OpenT P t oc OpnOk := by
  intro H enc w base spare held fuel cs x h
  obtain ⟨xs, m, _, _, hl, hxl, hx⟩ := DataW.trod_struct ht h
  rw [hct] at hl
  have g0 := hx 0 f0 rfl
  have g1 := hx 1 f1 rfl
  have g2 := hx 2 f2 rfl
  have g3 := hx 3 f3 rfl
  have g4 := hx 4 f4 rfl
  have g5 := hx 5 f5 rfl
  have g6 := hx 6 f6 rfl
  have hx2 : xs.length = 7 := by simpa using hxl
  simp only [List.cons.injEq, and_true] at hoff hty hc
  obtain ⟨o0, o1, o2, o3, o4, o5, o6⟩ := hoff
  obtain ⟨c0, c1, c2, c3, c4, c5, c6⟩ := hc
  obtain ⟨t0, t6⟩ := hty
  rw [List.getElem?_eq_getElem (by omega)] at g0 g1 g2 g3 g4 g5 g6
  rw [o0, c0, t0] at g0
  rw [o1, c1] at g1
  rw [o2, c2] at g2
  rw [o3, c3] at g3
  rw [o4, c4] at g4
  rw [o5, c5] at g5
  rw [o6, c6, t6] at g6
  obtain ⟨d, hd, e0⟩ := hD _ _ _ _ _ _ _ _ _ g0
  obtain ⟨k, hk, e1⟩ := O_int u1 _ _ _ _ _ _ _ _ _ g1
  obtain ⟨c, hc', e2⟩ := O_int u2 _ _ _ _ _ _ _ _ _ g2
  obtain ⟨i, hi, e3⟩ := O_int u3 _ _ _ _ _ _ _ _ _ g3
  obtain ⟨q, hq, e4⟩ := O_int u4 _ _ _ _ _ _ _ _ _ g4
  obtain ⟨tk, htk, e5⟩ := O_int u5 _ _ _ _ _ _ _ _ _ g5
  obtain ⟨v, hv, e6⟩ := hV _ _ _ _ _ _ _ _ _ g6
  refine ⟨⟨d, k, c, i, q, tk, v⟩, ⟨hd, inK_u8 hk, inK_u16 hc', inK_u16 hi, inK_u16 hq, inK_u32 htk, hv⟩, ?_⟩
  match cs, hl with
  | x0 :: x1 :: x2 :: x3 :: x4 :: x5 :: x6 :: R, hR =>
    have e6' : R = vc v := by
      simp only [List.drop_succ_cons, List.drop_zero] at e6
      rw [List.take_of_length_le (by simp at hR; omega)] at e6; exact e6
    simp [ic, dc] at e0 e1 e2 e3 e4 e5
    rw [e0.1, e0.2, e1, e2, e3, e4, e5, e6']
    rfl
end Go.Vx
namespace Go.Vx
structure EqS (s t : VSt) : Prop where
  tick : s.tick = t.tick
  out : s.out = t.out
  items : ∀ n, mget n s.items = mget n t.items
theorem EqS.refl (s : VSt) : EqS s s := ⟨rfl, rfl, fun _ => rfl⟩
theorem EqS.trans {s t u : VSt} (h : EqS s t) (g : EqS t u) : EqS s u := ⟨h.tick.trans g.tick, h.out.trans g.out, fun n => (h.items n).trans (g.items n)⟩
end Go.Vx
namespace Go.Proofs
open Go Go.Vx Go.RowKit
namespace Tt
theorem HM : Try.prog.follows .mixedOrders = true := by kernel_rfl
theorem S1_22 : T1 Try.prog 22 := ⟨Try.sizeOf22, Try.isAgg22⟩
theorem S1_5 : T1 Try.prog 5 := ⟨Try.sizeOf5, Try.isAgg5⟩
theorem SA_24 : TA Try.prog 24 16 := ⟨Try.sizeOf24, Try.isAgg24⟩
theorem SA_34 : TA Try.prog 34 2 := ⟨Try.sizeOf34, Try.isAgg34⟩
set_option maxRecDepth 20000 in
theorem EQ_34 (a b : Dot) : EqF Try.prog 2 34 (.agg (dc a).toArray) (.agg (dc b).toArray) (decide (a = b)) := by
  rw [← dec_dot]
  exact EqF_struct Try.underlying34 Try.stoodInHeld34 (.cons (by decide) (PartF_one ⟨Try.sizeOf5, Try.isAgg5⟩ rfl) (PartF_one ⟨Try.sizeOf5, Try.isAgg5⟩ rfl) (EqF_int Try.runUnderlying5) (.cons (by decide) (PartF_one ⟨Try.sizeOf22, Try.isAgg22⟩ rfl) (PartF_one ⟨Try.sizeOf22, Try.isAgg22⟩ rfl) (EqF_int Try.runUnderlying22) .nil))
set_option maxRecDepth 20000 in
theorem BT_24 : Bt Try.prog 24 [(0, 1), (1, 1), (2, 1), (3, 1), (4, 1), (5, 1), (6, 1), (7, 1), (8, 1), (9, 1), (10, 1), (11, 1), (12, 1), (13, 1), (14, 1), (15, 1)] (vc vzero) := Bt_array Try.type24 rfl rfl Try.underlying24 Try.type22 rfl (k := 1) rfl
set_option maxRecDepth 20000 in
theorem BT_34 : Bt Try.prog 34 [(0, 1), (1, 1)] (dc (⟨0, 0⟩ : Dot)) := Bt_struct Try.type34 rfl rfl Try.underlying34 (by kernel_rfl)
theorem EN_45 : En Try.prog 45 := Try.call45
theorem EN_62 : En Try.prog 62 := Try.call62
theorem FA_34_0 : FA Try.prog 34 0 0 := fun b o w => by simp [Instr.fieldAt, Instr.sureAddr, fieldPlace, add_eq]
theorem FA_34_1 : FA Try.prog 34 1 1 := fun b o w => by simp [Instr.fieldAt, Instr.sureAddr, fieldPlace, add_eq]
theorem UD_24 : Ud Try.prog 24 (.array 16 22) := Try.runUnderlying24
theorem UD_3 : Ud Try.prog 3 (.int .i64) := Try.runUnderlying3
theorem UD_5 : Ud Try.prog 5 (.int .u8) := Try.runUnderlying5
theorem ZV_34 : Zv Try.prog 34 (.agg (dc (⟨0, 0⟩ : Dot)).toArray) := Try.zeroValue34
set_option maxRecDepth 20000 in
set_option maxHeartbeats 4000000 in
theorem vdot_ok (w : World) (d : Dot) : Calls Try.prog 62 #[.agg (dc d).toArray] w (fun e w' => e = .returned (.bool (dotB d)) ∧ Own w no w' []) := by
  refine calls_of_Wn (n := 16) Try.func62 rfl Try.ntmps62 rfl ?_
  have hs := Own.start w
  refine W_seq ?_
  refine W_region ?_
  refine RW_op (L_box (V := .agg (dc d).toArray) (cs := dc d) rfl rfl hs fun b1 w2 hs => ?_)
  refine RW_op (L_assign (V := .bool false) rfl ?_)
  refine RW_nil ?_
  refine W_seq ?_
  refine W_inv2 [3, 4, 5, 6, 7, 8, 9, 10, 11, 12, 13, 14, 15, 2] [[], [0], [1], [2], [3], [4, 3], [5, 3], [3, 6], [7, 3], [8], [9, 8], [10, 8], [8, 11], [12, 8, 0, 1, 2, 3, 4, 5, 6, 7, 8, 9, 10, 11, 12]] (fun D ρ wx => Own w no wx [blk b1 (dc d) 34] ∧ (D 0 = true → ρ 3 = .pointer (some ⟨b1, 0 + 0, none⟩)) ∧ (D 1 = true → ρ 4 = .int .u8 d.rep) ∧ (D 2 = true → ρ 5 = .bool (decide (d.rep < 16))) ∧ (D 3 = true → ρ 6 = .bool (decide (d.rep < 16))) ∧ (D 4 = true → ρ 7 = cond ((decide (d.rep < 16)) == true) (.pointer (some ⟨b1, 0 + 1, none⟩)) undef) ∧ (D 5 = true → ρ 8 = cond ((decide (d.rep < 16)) == true) (.int .u32 d.seq) undef) ∧ (D 6 = true → ρ 9 = cond ((decide (d.rep < 16)) == true) (.bool (decide (1 ≤ d.seq))) undef) ∧ (D 7 = true → ρ 10 = .bool ((decide (d.rep < 16)) && (decide (1 ≤ d.seq)))) ∧ (D 8 = true → ρ 11 = .bool ((decide (d.rep < 16)) && (decide (1 ≤ d.seq)))) ∧ (D 9 = true → ρ 12 = cond (((decide (d.rep < 16)) && (decide (1 ≤ d.seq))) == true) (.pointer (some ⟨b1, 0 + 1, none⟩)) undef) ∧ (D 10 = true → ρ 13 = cond (((decide (d.rep < 16)) && (decide (1 ≤ d.seq))) == true) (.int .u32 d.seq) undef) ∧ (D 11 = true → ρ 14 = cond (((decide (d.rep < 16)) && (decide (1 ≤ d.seq))) == true) (.bool (decide (d.seq ≤ 1048576))) undef) ∧ (D 12 = true → ρ 15 = .bool (((decide (d.rep < 16)) && (decide (1 ≤ d.seq))) && (decide (d.seq ≤ 1048576)))) ∧ (D 13 = true → ρ 2 = .bool (((decide (d.rep < 16)) && (decide (1 ≤ d.seq))) && (decide (d.seq ≤ 1048576))))) rfl rfl rfl ⟨hs, fun h => absurd h Bool.false_ne_true, fun h => absurd h Bool.false_ne_true, fun h => absurd h Bool.false_ne_true, fun h => absurd h Bool.false_ne_true, fun h => absurd h Bool.false_ne_true, fun h => absurd h Bool.false_ne_true, fun h => absurd h Bool.false_ne_true, fun h => absurd h Bool.false_ne_true, fun h => absurd h Bool.false_ne_true, fun h => absurd h Bool.false_ne_true, fun h => absurd h Bool.false_ne_true, fun h => absurd h Bool.false_ne_true, fun h => absurd h Bool.false_ne_true, fun h => absurd h Bool.false_ne_true⟩ ⟨?_, ?_, ?_, ?_, ?_, ?_, ?_, ?_, ?_, ?_, ?_, ?_, ?_, ?_, trivial⟩ ?_
  · rintro D ρ wx hD hd hdc hf ⟨hs, f0, f1, f2, f3, f4, f5, f6, f7, f8, f9, f10, f11, f12, f13⟩
    have r1 : ρ 1 = .pointer (some ⟨b1, 0, none⟩) := outD hf 1 rfl
    exact .inl ⟨rfl, L_fieldAddr FA_34_0 r1 ⟨hs, fun _ => rfl, f1, f2, f3, f4, f5, f6, f7, f8, f9, f10, f11, f12, f13⟩⟩
  · rintro D ρ wx hD hd hdc hf ⟨hs, f0, f1, f2, f3, f4, f5, f6, f7, f8, f9, f10, f11, f12, f13⟩
    have g0 := f0 (doneD hd 0 rfl)
    exact .inl ⟨rfl, L_ld (V := .int .u8 d.rep) S1_5 hs 0 rfl g0 rfl ⟨hs, f0, fun _ => rfl, f2, f3, f4, f5, f6, f7, f8, f9, f10, f11, f12, f13⟩⟩
  · rintro D ρ wx hD hd hdc hf ⟨hs, f0, f1, f2, f3, f4, f5, f6, f7, f8, f9, f10, f11, f12, f13⟩
    have g1 := f1 (doneD hd 1 rfl)
    exact .inl ⟨rfl, L_lss g1 rfl ⟨hs, f0, f1, fun _ => rfl, f3, f4, f5, f6, f7, f8, f9, f10, f11, f12, f13⟩⟩
  · rintro D ρ wx hD hd hdc hf ⟨hs, f0, f1, f2, f3, f4, f5, f6, f7, f8, f9, f10, f11, f12, f13⟩
    have g2 := f2 (doneD hd 2 rfl)
    exact .inl ⟨rfl, L_move (V := .bool (decide (d.rep < 16))) g2 ⟨hs, f0, f1, f2, fun _ => rfl, f4, f5, f6, f7, f8, f9, f10, f11, f12, f13⟩⟩
  · rintro D ρ wx hD hd hdc hf ⟨hs, f0, f1, f2, f3, f4, f5, f6, f7, f8, f9, f10, f11, f12, f13⟩
    have r1 : ρ 1 = .pointer (some ⟨b1, 0, none⟩) := outD hf 1 rfl
    rcases Bool.eq_false_or_eq_true ((decide (d.rep < 16)) == true) with hG | hG
    rotate_left
    · exact .inr ⟨(Eq.trans (wantG1 (j := 3) rfl (f3 (doneD hd 3 rfl))) hG), ⟨hs, f0, f1, f2, f3, fun _ => (condF hG).symm, f5, f6, f7, f8, f9, f10, f11, f12, f13⟩⟩
    ·
      exact .inl ⟨(Eq.trans (wantG1 (j := 3) rfl (f3 (doneD hd 3 rfl))) hG), L_fieldAddr FA_34_1 r1 ⟨hs, f0, f1, f2, f3, fun _ => (condT hG).symm, f5, f6, f7, f8, f9, f10, f11, f12, f13⟩⟩
  · rintro D ρ wx hD hd hdc hf ⟨hs, f0, f1, f2, f3, f4, f5, f6, f7, f8, f9, f10, f11, f12, f13⟩
    have g4 := f4 (doneD hd 4 rfl)
    rcases Bool.eq_false_or_eq_true ((decide (d.rep < 16)) == true) with hG | hG
    rotate_left
    · exact .inr ⟨(Eq.trans (wantG1 (j := 3) rfl (f3 (doneD hd 3 rfl))) hG), ⟨hs, f0, f1, f2, f3, f4, fun _ => (condF hG).symm, f6, f7, f8, f9, f10, f11, f12, f13⟩⟩
    ·
      exact .inl ⟨(Eq.trans (wantG1 (j := 3) rfl (f3 (doneD hd 3 rfl))) hG), L_ld (V := .int .u32 d.seq) S1_22 hs 0 rfl ((g4).trans (condT (by exact hG))) rfl ⟨hs, f0, f1, f2, f3, f4, fun _ => (condT hG).symm, f6, f7, f8, f9, f10, f11, f12, f13⟩⟩
  · rintro D ρ wx hD hd hdc hf ⟨hs, f0, f1, f2, f3, f4, f5, f6, f7, f8, f9, f10, f11, f12, f13⟩
    have g5 := f5 (doneD hd 5 rfl)
    rcases Bool.eq_false_or_eq_true ((decide (d.rep < 16)) == true) with hG | hG
    rotate_left
    · exact .inr ⟨(Eq.trans (wantG1 (j := 3) rfl (f3 (doneD hd 3 rfl))) hG), ⟨hs, f0, f1, f2, f3, f4, f5, fun _ => (condF hG).symm, f7, f8, f9, f10, f11, f12, f13⟩⟩
    ·
      exact .inl ⟨(Eq.trans (wantG1 (j := 3) rfl (f3 (doneD hd 3 rfl))) hG), L_geq ((g5).trans (condT (by exact hG))) rfl ⟨hs, f0, f1, f2, f3, f4, f5, fun _ => (condT hG).symm, f7, f8, f9, f10, f11, f12, f13⟩⟩
  · rintro D ρ wx hD hd hdc hf ⟨hs, f0, f1, f2, f3, f4, f5, f6, f7, f8, f9, f10, f11, f12, f13⟩
    have g3 := f3 (doneD hd 3 rfl)
    have g6 := f6 (doneD hd 6 rfl)
    exact .inl ⟨rfl, L_and g3 rfl (fun hg => ((g6).trans (condT (by first | exact beqT hg | rfl)))) ⟨hs, f0, f1, f2, f3, f4, f5, f6, fun _ => rfl, f8, f9, f10, f11, f12, f13⟩⟩
  · rintro D ρ wx hD hd hdc hf ⟨hs, f0, f1, f2, f3, f4, f5, f6, f7, f8, f9, f10, f11, f12, f13⟩
    have g7 := f7 (doneD hd 7 rfl)
    exact .inl ⟨rfl, L_move (V := .bool ((decide (d.rep < 16)) && (decide (1 ≤ d.seq)))) g7 ⟨hs, f0, f1, f2, f3, f4, f5, f6, f7, fun _ => rfl, f9, f10, f11, f12, f13⟩⟩
  · rintro D ρ wx hD hd hdc hf ⟨hs, f0, f1, f2, f3, f4, f5, f6, f7, f8, f9, f10, f11, f12, f13⟩
    have r1 : ρ 1 = .pointer (some ⟨b1, 0, none⟩) := outD hf 1 rfl
    rcases Bool.eq_false_or_eq_true (((decide (d.rep < 16)) && (decide (1 ≤ d.seq))) == true) with hG | hG
    rotate_left
    · exact .inr ⟨(Eq.trans (wantG1 (j := 8) rfl (f8 (doneD hd 8 rfl))) hG), ⟨hs, f0, f1, f2, f3, f4, f5, f6, f7, f8, fun _ => (condF hG).symm, f10, f11, f12, f13⟩⟩
    ·
      exact .inl ⟨(Eq.trans (wantG1 (j := 8) rfl (f8 (doneD hd 8 rfl))) hG), L_fieldAddr FA_34_1 r1 ⟨hs, f0, f1, f2, f3, f4, f5, f6, f7, f8, fun _ => (condT hG).symm, f10, f11, f12, f13⟩⟩
  · rintro D ρ wx hD hd hdc hf ⟨hs, f0, f1, f2, f3, f4, f5, f6, f7, f8, f9, f10, f11, f12, f13⟩
    have g9 := f9 (doneD hd 9 rfl)
    rcases Bool.eq_false_or_eq_true (((decide (d.rep < 16)) && (decide (1 ≤ d.seq))) == true) with hG | hG
    rotate_left
    · exact .inr ⟨(Eq.trans (wantG1 (j := 8) rfl (f8 (doneD hd 8 rfl))) hG), ⟨hs, f0, f1, f2, f3, f4, f5, f6, f7, f8, f9, fun _ => (condF hG).symm, f11, f12, f13⟩⟩
    ·
      exact .inl ⟨(Eq.trans (wantG1 (j := 8) rfl (f8 (doneD hd 8 rfl))) hG), L_ld (V := .int .u32 d.seq) S1_22 hs 0 rfl ((g9).trans (condT (by exact hG))) rfl ⟨hs, f0, f1, f2, f3, f4, f5, f6, f7, f8, f9, fun _ => (condT hG).symm, f11, f12, f13⟩⟩
  · rintro D ρ wx hD hd hdc hf ⟨hs, f0, f1, f2, f3, f4, f5, f6, f7, f8, f9, f10, f11, f12, f13⟩
    have g10 := f10 (doneD hd 10 rfl)
    rcases Bool.eq_false_or_eq_true (((decide (d.rep < 16)) && (decide (1 ≤ d.seq))) == true) with hG | hG
    rotate_left
    · exact .inr ⟨(Eq.trans (wantG1 (j := 8) rfl (f8 (doneD hd 8 rfl))) hG), ⟨hs, f0, f1, f2, f3, f4, f5, f6, f7, f8, f9, f10, fun _ => (condF hG).symm, f12, f13⟩⟩
    ·
      exact .inl ⟨(Eq.trans (wantG1 (j := 8) rfl (f8 (doneD hd 8 rfl))) hG), L_leq ((g10).trans (condT (by exact hG))) rfl ⟨hs, f0, f1, f2, f3, f4, f5, f6, f7, f8, f9, f10, fun _ => (condT hG).symm, f12, f13⟩⟩
  · rintro D ρ wx hD hd hdc hf ⟨hs, f0, f1, f2, f3, f4, f5, f6, f7, f8, f9, f10, f11, f12, f13⟩
    have g8 := f8 (doneD hd 8 rfl)
    have g11 := f11 (doneD hd 11 rfl)
    exact .inl ⟨rfl, L_and g8 rfl (fun hg => ((g11).trans (condT (by first | exact beqT hg | rfl)))) ⟨hs, f0, f1, f2, f3, f4, f5, f6, f7, f8, f9, f10, f11, fun _ => rfl, f13⟩⟩
  · rintro D ρ wx hD hd hdc hf ⟨hs, f0, f1, f2, f3, f4, f5, f6, f7, f8, f9, f10, f11, f12, f13⟩
    have g12 := f12 (doneD hd 12 rfl)
    exact .inl ⟨rfl, L_assign (V := .bool (((decide (d.rep < 16)) && (decide (1 ≤ d.seq))) && (decide (d.seq ≤ 1048576)))) g12 ⟨hs, f0, f1, f2, f3, f4, f5, f6, f7, f8, f9, f10, f11, f12, fun _ => rfl⟩⟩
  · rintro ρ1 w1 D hD hf ⟨hs, f0, f1, f2, f3, f4, f5, f6, f7, f8, f9, f10, f11, f12, f13⟩
    have e13 := f13 (hD 13 rfl)
    clear f0 f1 f2 f3 f4 f5 f6 f7 f8 f9 f10 f11 f12 f13
    obtain ⟨ρ2, hρ⟩ : ∃ ρ2, ρ1 = upd (mix [3, 4, 5, 6, 7, 8, 9, 10, 11, 12, 13, 14, 15, 2] ρ2 _) 2 (.bool (((decide (d.rep < 16)) && (decide (1 ≤ d.seq))) && (decide (d.seq ≤ 1048576)))) := ⟨ρ1, upd_of (mix_of (ds := [3, 4, 5, 6, 7, 8, 9, 10, 11, 12, 13, 14, 15, 2]) hf) e13⟩
    clear hf hD e13
    subst hρ
    refine W_ret ?_
    refine ⟨_, res_one (V := .bool (((decide (d.rep < 16)) && (decide (1 ≤ d.seq))) && (decide (d.seq ≤ 1048576)))) Try.results62 rfl, ?_⟩
    refine ⟨congrArg Ending.returned ?_, hs.take 0⟩
    rfl
set_option maxRecDepth 20000 in
set_option maxHeartbeats 4000000 in
theorem vHas_ok (w : World) (v : Vec) (d : Dot) (hd : DotOk d) : Calls Try.prog 45 #[.agg (vc v).toArray, .agg (dc d).toArray] w (fun e w' => e = .returned (.bool (hasB v d)) ∧ Own w no w' []) := by
  refine calls_of_Wn (n := 16) Try.func45 rfl Try.ntmps45 rfl ?_
  have hs := Own.start w
  have ⟨⟨hd1, hd2⟩, hd3, hd4⟩ := hd
  refine W_seq ?_
  refine W_region ?_
  refine RW_op (L_box (V := .agg (vc v).toArray) (cs := vc v) rfl rfl hs fun b1 w2 hs => ?_)
  refine RW_op (L_box (V := .agg (dc d).toArray) (cs := dc d) rfl rfl hs fun b3 w4 hs => ?_)
  refine RW_op (L_assign (V := .bool false) rfl ?_)
  refine RW_nil ?_
  refine W_seq ?_
  replace hs := hs.drew
  refine W_draw2 HM [5, 6, 7, 8, 9, 10, 11, 12, 13, 14, 15, 4] [[], [0], [1, 1], [2], [3, 2], [2], [5, 2], [6, 2], [7, 2], [4, 8, 2], [2, 9], [10, 2, 0, 1, 2, 3, 4, 5, 6, 7, 8, 9, 10]] (fun D ρ wx => Own w no wx [blk b1 (vc v) 24, blk b3 (dc d) 34] ∧ (D 0 = true → ρ 5 = .agg (dc d).toArray) ∧ (D 1 = true → ρ 6 = .bool (dotB d)) ∧ (D 2 = true → ρ 7 = .bool (dotB d)) ∧ (D 3 = true → ρ 8 = cond ((dotB d) == true) (.pointer (some ⟨b3, 0 + 1, none⟩)) undef) ∧ (D 4 = true → ρ 9 = cond ((dotB d) == true) (.int .u32 d.seq) undef) ∧ (D 5 = true → ρ 10 = cond ((dotB d) == true) (.pointer (some ⟨b3, 0 + 0, none⟩)) undef) ∧ (D 6 = true → ρ 11 = cond ((dotB d) == true) (.int .u8 d.rep) undef) ∧ (D 7 = true → ρ 12 = cond ((dotB d) == true) (.pointer (some ⟨b1, 0 + d.rep.toNat, none⟩)) undef) ∧ (D 8 = true → ρ 13 = cond ((dotB d) == true) (.int .u32 (vat v d.rep.toNat)) undef) ∧ (D 9 = true → ρ 14 = cond ((dotB d) == true) (.bool (decide (d.seq ≤ vat v d.rep.toNat))) undef) ∧ (D 10 = true → ρ 15 = .bool ((dotB d) && (decide (d.seq ≤ vat v d.rep.toNat)))) ∧ (D 11 = true → ρ 4 = .bool ((dotB d) && (decide (d.seq ≤ vat v d.rep.toNat))))) rfl rfl rfl ⟨hs, fun h => absurd h Bool.false_ne_true, fun h => absurd h Bool.false_ne_true, fun h => absurd h Bool.false_ne_true, fun h => absurd h Bool.false_ne_true, fun h => absurd h Bool.false_ne_true, fun h => absurd h Bool.false_ne_true, fun h => absurd h Bool.false_ne_true, fun h => absurd h Bool.false_ne_true, fun h => absurd h Bool.false_ne_true, fun h => absurd h Bool.false_ne_true, fun h => absurd h Bool.false_ne_true, fun h => absurd h Bool.false_ne_true⟩ ⟨?_, ?_, ?_, ?_, ?_, ?_, ?_, ?_, ?_, ?_, ?_, ?_, trivial⟩ ?_
  · rintro D ρ wx hD hd hdc hf ⟨hs, f0, f1, f2, f3, f4, f5, f6, f7, f8, f9, f10, f11⟩
    have r3 : ρ 3 = .pointer (some ⟨b3, 0, none⟩) := outD hf 3 rfl
    exact .inl ⟨rfl, L_ldW (cs := dc d) SA_34 hs 1 rfl r3 rfl ⟨hs, fun _ => rfl, f1, f2, f3, f4, f5, f6, f7, f8, f9, f10, f11⟩⟩
  · rintro D ρ wx hD hd hdc hf ⟨hs, f0, f1, f2, f3, f4, f5, f6, f7, f8, f9, f10, f11⟩
    have g0 := f0 (doneD hd 0 rfl)
    exact .inl ⟨rfl, L_callP (vs := [.agg (dc d).toArray]) (V := .bool (dotB d)) EN_62 rfl (mapc g0 rfl) (vdot_ok _ d) hs fun _ hs0 => ⟨hs0, f0, fun _ => rfl, f2, f3, f4, f5, f6, f7, f8, f9, f10, f11⟩⟩
  · rintro D ρ wx hD hd hdc hf ⟨hs, f0, f1, f2, f3, f4, f5, f6, f7, f8, f9, f10, f11⟩
    have g1 := f1 (doneD hd 1 rfl)
    exact .inl ⟨rfl, L_move (V := .bool (dotB d)) g1 ⟨hs, f0, f1, fun _ => rfl, f3, f4, f5, f6, f7, f8, f9, f10, f11⟩⟩
  · rintro D ρ wx hD hd hdc hf ⟨hs, f0, f1, f2, f3, f4, f5, f6, f7, f8, f9, f10, f11⟩
    have r3 : ρ 3 = .pointer (some ⟨b3, 0, none⟩) := outD hf 3 rfl
    rcases Bool.eq_false_or_eq_true ((dotB d) == true) with hG | hG
    rotate_left
    · exact .inr ⟨(Eq.trans (wantG1 (j := 2) rfl (f2 (doneD hd 2 rfl))) hG), ⟨hs, f0, f1, f2, fun _ => (condF hG).symm, f4, f5, f6, f7, f8, f9, f10, f11⟩⟩
    ·
      have hb := dotB_spec (eq_of_beq hG)
      exact .inl ⟨(Eq.trans (wantG1 (j := 2) rfl (f2 (doneD hd 2 rfl))) hG), L_fieldAddr FA_34_1 r3 ⟨hs, f0, f1, f2, fun _ => (condT hG).symm, f4, f5, f6, f7, f8, f9, f10, f11⟩⟩
  · rintro D ρ wx hD hd hdc hf ⟨hs, f0, f1, f2, f3, f4, f5, f6, f7, f8, f9, f10, f11⟩
    have g3 := f3 (doneD hd 3 rfl)
    rcases Bool.eq_false_or_eq_true ((dotB d) == true) with hG | hG
    rotate_left
    · exact .inr ⟨(Eq.trans (wantG1 (j := 2) rfl (f2 (doneD hd 2 rfl))) hG), ⟨hs, f0, f1, f2, f3, fun _ => (condF hG).symm, f5, f6, f7, f8, f9, f10, f11⟩⟩
    ·
      have hb := dotB_spec (eq_of_beq hG)
      exact .inl ⟨(Eq.trans (wantG1 (j := 2) rfl (f2 (doneD hd 2 rfl))) hG), L_ld (V := .int .u32 d.seq) S1_22 hs 1 rfl ((g3).trans (condT (by exact hG))) rfl ⟨hs, f0, f1, f2, f3, fun _ => (condT hG).symm, f5, f6, f7, f8, f9, f10, f11⟩⟩
  · rintro D ρ wx hD hd hdc hf ⟨hs, f0, f1, f2, f3, f4, f5, f6, f7, f8, f9, f10, f11⟩
    have r3 : ρ 3 = .pointer (some ⟨b3, 0, none⟩) := outD hf 3 rfl
    rcases Bool.eq_false_or_eq_true ((dotB d) == true) with hG | hG
    rotate_left
    · exact .inr ⟨(Eq.trans (wantG1 (j := 2) rfl (f2 (doneD hd 2 rfl))) hG), ⟨hs, f0, f1, f2, f3, f4, fun _ => (condF hG).symm, f6, f7, f8, f9, f10, f11⟩⟩
    ·
      have hb := dotB_spec (eq_of_beq hG)
      exact .inl ⟨(Eq.trans (wantG1 (j := 2) rfl (f2 (doneD hd 2 rfl))) hG), L_fieldAddr FA_34_0 r3 ⟨hs, f0, f1, f2, f3, f4, fun _ => (condT hG).symm, f6, f7, f8, f9, f10, f11⟩⟩
  · rintro D ρ wx hD hd hdc hf ⟨hs, f0, f1, f2, f3, f4, f5, f6, f7, f8, f9, f10, f11⟩
    have g5 := f5 (doneD hd 5 rfl)
    rcases Bool.eq_false_or_eq_true ((dotB d) == true) with hG | hG
    rotate_left
    · exact .inr ⟨(Eq.trans (wantG1 (j := 2) rfl (f2 (doneD hd 2 rfl))) hG), ⟨hs, f0, f1, f2, f3, f4, f5, fun _ => (condF hG).symm, f7, f8, f9, f10, f11⟩⟩
    ·
      have hb := dotB_spec (eq_of_beq hG)
      exact .inl ⟨(Eq.trans (wantG1 (j := 2) rfl (f2 (doneD hd 2 rfl))) hG), L_ld (V := .int .u8 d.rep) S1_5 hs 1 rfl ((g5).trans (condT (by exact hG))) rfl ⟨hs, f0, f1, f2, f3, f4, f5, fun _ => (condT hG).symm, f7, f8, f9, f10, f11⟩⟩
  · rintro D ρ wx hD hd hdc hf ⟨hs, f0, f1, f2, f3, f4, f5, f6, f7, f8, f9, f10, f11⟩
    have g6 := f6 (doneD hd 6 rfl)
    have r2 : ρ 2 = .pointer (some ⟨b1, 0, none⟩) := outD hf 2 rfl
    rcases Bool.eq_false_or_eq_true ((dotB d) == true) with hG | hG
    rotate_left
    · exact .inr ⟨(Eq.trans (wantG1 (j := 2) rfl (f2 (doneD hd 2 rfl))) hG), ⟨hs, f0, f1, f2, f3, f4, f5, f6, fun _ => (condF hG).symm, f8, f9, f10, f11⟩⟩
    ·
      have hb := dotB_spec (eq_of_beq hG)
      exact .inl ⟨(Eq.trans (wantG1 (j := 2) rfl (f2 (doneD hd 2 rfl))) hG), L_ixArr1 UD_24 S1_22.1 r2 ((g6).trans (condT (by exact hG))) (by omega) (by omega) ⟨hs, f0, f1, f2, f3, f4, f5, f6, fun _ => (condT hG).symm, f8, f9, f10, f11⟩⟩
  · rintro D ρ wx hD hd hdc hf ⟨hs, f0, f1, f2, f3, f4, f5, f6, f7, f8, f9, f10, f11⟩
    have g7 := f7 (doneD hd 7 rfl)
    rcases Bool.eq_false_or_eq_true ((dotB d) == true) with hG | hG
    rotate_left
    · exact .inr ⟨(Eq.trans (wantG1 (j := 2) rfl (f2 (doneD hd 2 rfl))) hG), ⟨hs, f0, f1, f2, f3, f4, f5, f6, f7, fun _ => (condF hG).symm, f9, f10, f11⟩⟩
    ·
      have hb := dotB_spec (eq_of_beq hG)
      exact .inl ⟨(Eq.trans (wantG1 (j := 2) rfl (f2 (doneD hd 2 rfl))) hG), L_ld (V := .int .u32 (vat v d.rep.toNat)) S1_22 hs 0 rfl ((g7).trans (condT (by exact hG))) (vc_atO (by omega) (by omega)) ⟨hs, f0, f1, f2, f3, f4, f5, f6, f7, fun _ => (condT hG).symm, f9, f10, f11⟩⟩
  · rintro D ρ wx hD hd hdc hf ⟨hs, f0, f1, f2, f3, f4, f5, f6, f7, f8, f9, f10, f11⟩
    have g4 := f4 (doneD hd 4 rfl)
    have g8 := f8 (doneD hd 8 rfl)
    rcases Bool.eq_false_or_eq_true ((dotB d) == true) with hG | hG
    rotate_left
    · exact .inr ⟨(Eq.trans (wantG1 (j := 2) rfl (f2 (doneD hd 2 rfl))) hG), ⟨hs, f0, f1, f2, f3, f4, f5, f6, f7, f8, fun _ => (condF hG).symm, f10, f11⟩⟩
    ·
      have hb := dotB_spec (eq_of_beq hG)
      exact .inl ⟨(Eq.trans (wantG1 (j := 2) rfl (f2 (doneD hd 2 rfl))) hG), L_leq ((g4).trans (condT (by exact hG))) ((g8).trans (condT (by exact hG))) ⟨hs, f0, f1, f2, f3, f4, f5, f6, f7, f8, fun _ => (condT hG).symm, f10, f11⟩⟩
  · rintro D ρ wx hD hd hdc hf ⟨hs, f0, f1, f2, f3, f4, f5, f6, f7, f8, f9, f10, f11⟩
    have g2 := f2 (doneD hd 2 rfl)
    have g9 := f9 (doneD hd 9 rfl)
    exact .inl ⟨rfl, L_and g2 rfl (fun hg => ((g9).trans (condT (by first | exact beqT hg | rfl)))) ⟨hs, f0, f1, f2, f3, f4, f5, f6, f7, f8, f9, fun _ => rfl, f11⟩⟩
  · rintro D ρ wx hD hd hdc hf ⟨hs, f0, f1, f2, f3, f4, f5, f6, f7, f8, f9, f10, f11⟩
    have g10 := f10 (doneD hd 10 rfl)
    exact .inl ⟨rfl, L_assign (V := .bool ((dotB d) && (decide (d.seq ≤ vat v d.rep.toNat)))) g10 ⟨hs, f0, f1, f2, f3, f4, f5, f6, f7, f8, f9, f10, fun _ => rfl⟩⟩
  · rintro ρ1 w1 D hD hf ⟨hs, f0, f1, f2, f3, f4, f5, f6, f7, f8, f9, f10, f11⟩
    have e11 := f11 (hD 11 rfl)
    clear f0 f1 f2 f3 f4 f5 f6 f7 f8 f9 f10 f11
    obtain ⟨ρ2, hρ⟩ : ∃ ρ2, ρ1 = upd (mix [5, 6, 7, 8, 9, 10, 11, 12, 13, 14, 15, 4] ρ2 _) 4 (.bool ((dotB d) && (decide (d.seq ≤ vat v d.rep.toNat)))) := ⟨ρ1, upd_of (mix_of (ds := [5, 6, 7, 8, 9, 10, 11, 12, 13, 14, 15, 4]) hf) e11⟩
    clear hf hD e11
    subst hρ
    refine W_ret ?_
    refine ⟨_, res_one (V := .bool ((dotB d) && (decide (d.seq ≤ vat v d.rep.toNat)))) Try.results45 rfl, ?_⟩
    refine ⟨congrArg Ending.returned ?_, hs.take 0⟩
    rfl
end Tt
end Go.Proofs
namespace Go.Proofs
open Go Go.Vx Go.RowKit
namespace Tt
theorem SA_79 : TA Try.prog 79 0 := ⟨Try.sizeOf79, Try.isAgg79⟩
set_option maxRecDepth 20000 in
theorem KO_34 : KeyOk Try.prog 34 dv := KeyOk_dot Try.underlying34 (by decide) (by decide) rfl rfl ⟨Try.sizeOf5, Try.isAgg5⟩ ⟨Try.sizeOf22, Try.isAgg22⟩ Try.runUnderlying5 Try.runUnderlying22 EQ_34
theorem UD_50 : Ud Try.prog 50 (.map 34 79) := Try.runUnderlying50
theorem ZV_79 : Zv Try.prog 79 (.agg #[]) := Try.zeroValue79
end Tt
end Go.Proofs
namespace Go.Proofs
open Go Go.Vx Go.RowKit
namespace Tt
set_option maxRecDepth 20000 in
theorem BT_79 : Bt Try.prog 79 [] ([]) := Bt_struct Try.type79 rfl rfl Try.underlying79 (by kernel_rfl)
end Tt
end Go.Proofs
namespace Go.Proofs
open Go Go.Vx Go.RowKit
namespace Tt
theorem S1_3 : T1 Try.prog 3 := ⟨Try.sizeOf3, Try.isAgg3⟩
set_option maxRecDepth 20000 in
theorem EL_120 : El Try.prog 120 3 1 8 := ⟨Try.underlying120, _, _, Try.type3, rfl, rfl, rfl, rfl, by decide⟩
theorem EN_66 : En Try.prog 66 := Try.call66
theorem EN_67 : En Try.prog 67 := Try.call67
theorem EN_68 : En Try.prog 68 := Try.call68
theorem EN_82 : En Try.prog 82 := Try.call82
theorem EN_83 : En Try.prog 83 := Try.call83
theorem UD_120 : Ud Try.prog 120 (.slice 3) := Try.runUnderlying120
set_option maxRecDepth 20000 in
set_option maxHeartbeats 4000000 in
theorem isNaN_uint8_ok (w : World) (x : Int) : Calls Try.prog 82 #[.int .u8 x] w (fun e w' => e = .returned (.bool false) ∧ Own w no w' []) := by
  refine calls_of_Wn (n := 6) Try.func82 rfl Try.ntmps82 rfl ?_
  have hs := Own.start w
  refine W_seq ?_
  refine W_region ?_
  refine RW_op (L_assign (V := .bool false) rfl ?_)
  refine RW_nil ?_
  refine W_seq ?_
  refine W_region ?_
  refine RW_op (L_move (V := .int .u8 x) rfl ?_)
  refine RW_op (L_move (V := .int .u8 x) rfl ?_)
  refine RW_op (L_neq rfl rfl ?_)
  refine RW_op (L_assign (V := .bool (!decide (x = x))) rfl ?_)
  refine RW_nil ?_
  refine W_ret ?_
  refine ⟨_, res_one (V := .bool (!decide (x = x))) Try.results82 rfl, ?_⟩
  refine ⟨congrArg Ending.returned ?_, hs.take 0⟩
  simp
set_option maxRecDepth 20000 in
set_option maxHeartbeats 4000000 in
theorem cmp_uint8_ok (w : World) (x y : Int) : Calls Try.prog 67 #[.int .u8 x, .int .u8 y] w (fun e w' => e = .returned (.int .i64 (cmpI x y)) ∧ Own w no w' []) := by
  refine calls_of_Wn (n := 20) Try.func67 rfl Try.ntmps67 rfl ?_
  have hs := Own.start w
  refine W_seq ?_
  refine W_region ?_
  refine RW_op (L_assign (V := .int .i64 0) rfl ?_)
  refine RW_nil ?_
  refine W_seq ?_
  refine W_region ?_
  refine RW_op (L_move (V := .int .u8 x) rfl ?_)
  refine RW_op (L_callP (vs := [.int .u8 x]) (V := .bool false) EN_82 rfl rfl ?hc hs fun w1 hs => ?_)
  case hc => exact (isNaN_uint8_ok _ x)
  refine RW_op (L_assign (V := .bool false) rfl ?_)
  refine RW_nil ?_
  refine W_seq ?_
  refine W_region ?_
  refine RW_op (L_move (V := .int .u8 y) rfl ?_)
  refine RW_op (L_callP (vs := [.int .u8 y]) (V := .bool false) EN_82 rfl rfl ?hc hs fun w2 hs => ?_)
  case hc => exact (isNaN_uint8_ok _ y)
  refine RW_op (L_assign (V := .bool false) rfl ?_)
  refine RW_nil ?_
  refine W_seq ?_
  refine W_seq ?_
  refine W_region ?_
  refine RW_op (L_move (V := .bool false) rfl ?_)
  refine RW_nil ?_
  refine W_condF rfl ?_
  refine W_skip ?_
  refine W_seq ?_
  refine W_seq ?_
  refine W_region ?_
  refine RW_op (L_move (V := .bool false) rfl ?_)
  refine RW_nil ?_
  refine W_condF rfl ?_
  refine W_skip ?_
  refine W_seq ?_
  refine W_seq ?_
  refine W_region ?_
  refine RW_op (L_move (V := .int .u8 x) rfl ?_)
  refine RW_op (L_move (V := .int .u8 y) rfl ?_)
  refine RW_op (L_lss rfl rfl ?_)
  refine RW_nil ?_
  refine W_cond (t := decide (x < y)) rfl (fun c3 => ?_) (fun c3 => ?_)
  ·
    replace c3 := of_decide_eq_true c3
    refine W_seq ?_
    refine W_region ?_
    refine RW_op (L_assign (V := .int .i64 (-1)) rfl ?_)
    refine RW_nil ?_
    refine W_ret ?_
    refine ⟨_, res_one (V := .int .i64 (-1)) Try.results67 rfl, ?_⟩
    refine ⟨congrArg Ending.returned ?_, hs.take 0⟩
    rw [cmpI_eq, if_pos c3]
  ·
    replace c3 := of_decide_eq_false c3
    refine W_skip ?_
    refine W_seq ?_
    refine W_seq ?_
    refine W_region ?_
    refine RW_op (L_move (V := .int .u8 x) rfl ?_)
    refine RW_op (L_move (V := .int .u8 y) rfl ?_)
    refine RW_op (L_gtr rfl rfl ?_)
    refine RW_nil ?_
    refine W_cond (t := decide (y < x)) rfl (fun c4 => ?_) (fun c4 => ?_)
    ·
      replace c4 := of_decide_eq_true c4
      refine W_seq ?_
      refine W_region ?_
      refine RW_op (L_assign (V := .int .i64 1) rfl ?_)
      refine RW_nil ?_
      refine W_ret ?_
      refine ⟨_, res_one (V := .int .i64 1) Try.results67 rfl, ?_⟩
      refine ⟨congrArg Ending.returned ?_, hs.take 0⟩
      rw [cmpI_eq, if_neg c3, if_pos c4]
    ·
      replace c4 := of_decide_eq_false c4
      refine W_skip ?_
      refine W_seq ?_
      refine W_region ?_
      refine RW_op (L_assign (V := .int .i64 0) rfl ?_)
      refine RW_nil ?_
      refine W_ret ?_
      refine ⟨_, res_one (V := .int .i64 0) Try.results67 rfl, ?_⟩
      refine ⟨congrArg Ending.returned ?_, hs.take 0⟩
      rw [cmpI_eq, if_neg c3, if_neg c4]
set_option maxRecDepth 20000 in
set_option maxHeartbeats 4000000 in
theorem isNaN_uint32_ok (w : World) (x : Int) : Calls Try.prog 83 #[.int .u32 x] w (fun e w' => e = .returned (.bool false) ∧ Own w no w' []) := by
  refine calls_of_Wn (n := 6) Try.func83 rfl Try.ntmps83 rfl ?_
  have hs := Own.start w
  refine W_seq ?_
  refine W_region ?_
  refine RW_op (L_assign (V := .bool false) rfl ?_)
  refine RW_nil ?_
  refine W_seq ?_
  refine W_region ?_
  refine RW_op (L_move (V := .int .u32 x) rfl ?_)
  refine RW_op (L_move (V := .int .u32 x) rfl ?_)
  refine RW_op (L_neq rfl rfl ?_)
  refine RW_op (L_assign (V := .bool (!decide (x = x))) rfl ?_)
  refine RW_nil ?_
  refine W_ret ?_
  refine ⟨_, res_one (V := .bool (!decide (x = x))) Try.results83 rfl, ?_⟩
  refine ⟨congrArg Ending.returned ?_, hs.take 0⟩
  simp
set_option maxRecDepth 20000 in
set_option maxHeartbeats 4000000 in
theorem cmp_uint32_ok (w : World) (x y : Int) : Calls Try.prog 68 #[.int .u32 x, .int .u32 y] w (fun e w' => e = .returned (.int .i64 (cmpI x y)) ∧ Own w no w' []) := by
  refine calls_of_Wn (n := 20) Try.func68 rfl Try.ntmps68 rfl ?_
  have hs := Own.start w
  refine W_seq ?_
  refine W_region ?_
  refine RW_op (L_assign (V := .int .i64 0) rfl ?_)
  refine RW_nil ?_
  refine W_seq ?_
  refine W_region ?_
  refine RW_op (L_move (V := .int .u32 x) rfl ?_)
  refine RW_op (L_callP (vs := [.int .u32 x]) (V := .bool false) EN_83 rfl rfl ?hc hs fun w1 hs => ?_)
  case hc => exact (isNaN_uint32_ok _ x)
  refine RW_op (L_assign (V := .bool false) rfl ?_)
  refine RW_nil ?_
  refine W_seq ?_
  refine W_region ?_
  refine RW_op (L_move (V := .int .u32 y) rfl ?_)
  refine RW_op (L_callP (vs := [.int .u32 y]) (V := .bool false) EN_83 rfl rfl ?hc hs fun w2 hs => ?_)
  case hc => exact (isNaN_uint32_ok _ y)
  refine RW_op (L_assign (V := .bool false) rfl ?_)
  refine RW_nil ?_
  refine W_seq ?_
  refine W_seq ?_
  refine W_region ?_
  refine RW_op (L_move (V := .bool false) rfl ?_)
  refine RW_nil ?_
  refine W_condF rfl ?_
  refine W_skip ?_
  refine W_seq ?_
  refine W_seq ?_
  refine W_region ?_
  refine RW_op (L_move (V := .bool false) rfl ?_)
  refine RW_nil ?_
  refine W_condF rfl ?_
  refine W_skip ?_
  refine W_seq ?_
  refine W_seq ?_
  refine W_region ?_
  refine RW_op (L_move (V := .int .u32 x) rfl ?_)
  refine RW_op (L_move (V := .int .u32 y) rfl ?_)
  refine RW_op (L_lss rfl rfl ?_)
  refine RW_nil ?_
  refine W_cond (t := decide (x < y)) rfl (fun c3 => ?_) (fun c3 => ?_)
  ·
    replace c3 := of_decide_eq_true c3
    refine W_seq ?_
    refine W_region ?_
    refine RW_op (L_assign (V := .int .i64 (-1)) rfl ?_)
    refine RW_nil ?_
    refine W_ret ?_
    refine ⟨_, res_one (V := .int .i64 (-1)) Try.results68 rfl, ?_⟩
    refine ⟨congrArg Ending.returned ?_, hs.take 0⟩
    rw [cmpI_eq, if_pos c3]
  ·
    replace c3 := of_decide_eq_false c3
    refine W_skip ?_
    refine W_seq ?_
    refine W_seq ?_
    refine W_region ?_
    refine RW_op (L_move (V := .int .u32 x) rfl ?_)
    refine RW_op (L_move (V := .int .u32 y) rfl ?_)
    refine RW_op (L_gtr rfl rfl ?_)
    refine RW_nil ?_
    refine W_cond (t := decide (y < x)) rfl (fun c4 => ?_) (fun c4 => ?_)
    ·
      replace c4 := of_decide_eq_true c4
      refine W_seq ?_
      refine W_region ?_
      refine RW_op (L_assign (V := .int .i64 1) rfl ?_)
      refine RW_nil ?_
      refine W_ret ?_
      refine ⟨_, res_one (V := .int .i64 1) Try.results68 rfl, ?_⟩
      refine ⟨congrArg Ending.returned ?_, hs.take 0⟩
      rw [cmpI_eq, if_neg c3, if_pos c4]
    ·
      replace c4 := of_decide_eq_false c4
      refine W_skip ?_
      refine W_seq ?_
      refine W_region ?_
      refine RW_op (L_assign (V := .int .i64 0) rfl ?_)
      refine RW_nil ?_
      refine W_ret ?_
      refine ⟨_, res_one (V := .int .i64 0) Try.results68 rfl, ?_⟩
      refine ⟨congrArg Ending.returned ?_, hs.take 0⟩
      rw [cmpI_eq, if_neg c3, if_neg c4]
set_option maxRecDepth 20000 in
set_option maxHeartbeats 4000000 in
theorem or_ok (w : World) (a : Option Addr) (c : Nat) (l : List Int) (hr : Rd w (.slice a l.length c) 1 (l.map (ic .i64))) : Calls Try.prog 66 #[.slice a l.length c] w (fun e w' => e = .returned (.int .i64 (orI l)) ∧ Own w no w' []) := by
  refine calls_of_Wn (n := 18) Try.func66 rfl Try.ntmps66 rfl ?_
  have hs := Own.start w
  have hn := hr.sml
  refine W_seq ?_
  refine W_region ?_
  refine RW_op (L_assign (V := .int .i64 0) rfl ?_)
  refine RW_nil ?_
  refine W_seq ?_
  refine W_region ?_
  refine RW_op (L_assign (V := .int .i64 0) rfl ?_)
  refine RW_nil ?_
  refine W_seq ?_
  refine W_seq ?_
  refine W_region ?_
  refine RW_op (L_move (V := .slice a l.length c) rfl ?_)
  refine RW_op (L_lenR (n := l.length) UD_120 (Rd.own' hr hs) (by simp) rfl ?_)
  refine RW_op (L_move (V := .int .i64 0) rfl ?_)
  refine RW_nil ?_
  refine W_block ?_
  refine W_loopI (fun ρ m ρ' w' => ∃ (ρo : Env) (k : Nat), ρ' = upd (mix [2, 5, 8, 9, 10, 11, 12, 13, 14, 15, 16] ρo ρ) 8 (.int .i64 (k : Int)) ∧ (k ≤ l.length) ∧ (∀ j : Nat, j < k → gd l j = 0) ∧ m = l.length - k ∧ Own w no w' []) ?_ ?_
  · exact ⟨_, _, 0, upd_of (mix_of (ds := [2, 5, 8, 9, 10, 11, 12, 13, 14, 15, 16]) (Agr.refl _ _)) rfl, (by omega), (fun j hj => absurd hj (Nat.not_lt_zero j)), rfl, hs⟩
  · rintro m ρ' w1 ⟨ρo, k, rfl, hk, h0, rfl, hs⟩
    refine W_seq ?_
    refine W_region ?_
    refine RW_op (L_lss rfl rfl ?_)
    refine RW_nil ?_
    refine W_seq ?_
    refine W_cond (t := decide ((k : Int) < ((l.length : Nat) : Int))) rfl (fun c2 => ?_) (fun c2 => ?_)
    ·
      replace c2 := of_decide_eq_true c2
      refine W_skip ?_
      refine W_seq ?_
      refine W_block ?_
      refine W_seq ?_
      refine W_region ?_
      refine RW_op (L_ixR UD_120 S1_3.1 (Rd.own' hr hs) rfl rfl (by omega) (by rw [List.length_map]; omega) ?_)
      refine RW_op (L_ldR (j := 0) (V := .int .i64 (gd l k)) k S1_3 (Rd.own' hr hs) (gd_at (by omega)) rfl rfl (by omega) ?_)
      refine RW_op (L_assign (V := .int .i64 (gd l k)) rfl ?_)
      refine RW_nil ?_
      refine W_seq ?_
      refine W_region ?_
      refine RW_op (L_move (V := .int .i64 (gd l k)) rfl ?_)
      refine RW_op (L_move (V := .int .i64 0) rfl ?_)
      refine RW_op (L_neq rfl rfl ?_)
      refine RW_nil ?_
      refine W_cond (t := !decide (gd l k = 0)) rfl (fun c3 => ?_) (fun c3 => ?_)
      ·
        replace c3 := not_t c3
        replace c3 := of_decide_eq_false c3
        refine W_seq ?_
        refine W_region ?_
        refine RW_op (L_move (V := .int .i64 (gd l k)) rfl ?_)
        refine RW_op (L_assign (V := .int .i64 (gd l k)) rfl ?_)
        refine RW_nil ?_
        refine W_ret ?_
        refine ⟨_, res_one (V := .int .i64 (gd l k)) Try.results66 rfl, ?_⟩
        refine ⟨congrArg Ending.returned ?_, hs.take 0⟩
        exact congrArg (Value.int IntKind.i64) (orI_yes (by omega) h0 c3).symm
      ·
        replace c3 := not_f c3
        replace c3 := of_decide_eq_true c3
        refine W_skip ?_
        refine W_region ?_
        refine RW_op (L_add (a := (k : Int)) (b := 1) (c := (k : Int) + 1) rfl rfl (wr_i64 (by omega) (by omega)) ?_)
        refine RW_op (L_move (V := .int .i64 ((k : Int) + 1)) rfl ?_)
        refine RW_nil ?_
        refine ⟨_, ?_, _, k + 1, upd_of (mix_of (ds := [2, 5, 8, 9, 10, 11, 12, 13, 14, 15, 16]) (by repeat (first | exact Agr.refl _ _ | refine Agr.upd ?_ rfl | refine Agr.mix ?_ rfl))) rfl, (by omega), (or_step h0 c3), rfl, hs.take 0⟩
        omega
    ·
      replace c2 := of_decide_eq_false c2
      refine W_exit ?_
      refine W_seq ?_
      refine W_region ?_
      refine RW_op (L_move (V := .int .i64 0) rfl ?_)
      refine RW_op (L_assign (V := .int .i64 0) rfl ?_)
      refine RW_nil ?_
      refine W_ret ?_
      refine ⟨_, res_one (V := .int .i64 0) Try.results66 rfl, ?_⟩
      refine ⟨congrArg Ending.returned ?_, hs.take 0⟩
      exact congrArg (Value.int IntKind.i64) (orI_no fun j hj => h0 j (by omega)).symm
end Tt
end Go.Proofs
namespace Go.Proofs
open Go Go.Vx Go.RowKit
namespace Ts
theorem HM : Try.prog.follows .mixedOrders = true := by kernel_rfl
theorem S1_57 : T1 Try.prog 57 := ⟨Try.sizeOf57, Try.isAgg57⟩
theorem EN_108 : En Try.prog 108 := Try.call108
theorem EN_119 : En Try.prog 119 := Try.call119
theorem UD_72 : Ud Try.prog 72 (.slice 57) := Try.runUnderlying72
set_option maxRecDepth 20000 in
set_option maxHeartbeats 4000000 in
theorem isNaN_ok (w : World) (x : Int) : Calls Try.prog 119 #[.int .u16 x] w (fun e w' => e = .returned (.bool false) ∧ Own w no w' []) := by
  refine calls_of_Wn (n := 6) Try.func119 rfl Try.ntmps119 rfl ?_
  have hs := Own.start w
  refine W_seq ?_
  refine W_region ?_
  refine RW_op (L_assign (V := .bool false) rfl ?_)
  refine RW_nil ?_
  refine W_seq ?_
  refine W_region ?_
  refine RW_op (L_move (V := .int .u16 x) rfl ?_)
  refine RW_op (L_move (V := .int .u16 x) rfl ?_)
  refine RW_op (L_neq rfl rfl ?_)
  refine RW_op (L_assign (V := .bool (!decide (x = x))) rfl ?_)
  refine RW_nil ?_
  refine W_ret ?_
  refine ⟨_, res_one (V := .bool (!decide (x = x))) Try.results119 rfl, ?_⟩
  refine ⟨congrArg Ending.returned ?_, hs.take 0⟩
  simp
set_option maxRecDepth 20000 in
set_option maxHeartbeats 4000000 in
theorem less_ok (w : World) (x y : Int) : Calls Try.prog 108 #[.int .u16 x, .int .u16 y] w (fun e w' => e = .returned (.bool (decide (x < y))) ∧ Own w no w' []) := by
  refine calls_of_Wn (n := 17) Try.func108 rfl Try.ntmps108 rfl ?_
  have hs := Own.start w
  refine W_seq ?_
  refine W_region ?_
  refine RW_op (L_assign (V := .bool false) rfl ?_)
  refine RW_nil ?_
  refine W_seq ?_
  refine W_inv2 [5, 6, 7, 8, 9, 10, 11, 12, 13, 14, 15, 16, 4] [[], [0], [1, 1], [2], [3, 2, 2], [4, 2], [2, 5], [6, 4], [7], [7], [8, 9, 7], [7, 10], [11, 7, 0, 1, 2, 3, 4, 5, 6, 7, 8, 9, 10, 11]] (fun D ρ wx => Own w no wx [] ∧ (D 0 = true → ρ 5 = .int .u16 x) ∧ (D 1 = true → ρ 6 = .bool false) ∧ (D 2 = true → ρ 7 = .bool false) ∧ (D 3 = true → ρ 8 = undef) ∧ (D 4 = true → ρ 9 = undef) ∧ (D 5 = true → ρ 10 = undef) ∧ (D 6 = true → ρ 11 = .bool false) ∧ (D 7 = true → ρ 12 = .bool false) ∧ (D 8 = true → ρ 13 = .int .u16 x) ∧ (D 9 = true → ρ 14 = .int .u16 y) ∧ (D 10 = true → ρ 15 = .bool (decide (x < y))) ∧ (D 11 = true → ρ 16 = .bool (decide (x < y))) ∧ (D 12 = true → ρ 4 = .bool (decide (x < y)))) rfl rfl rfl ⟨hs, fun h => absurd h Bool.false_ne_true, fun h => absurd h Bool.false_ne_true, fun h => absurd h Bool.false_ne_true, fun h => absurd h Bool.false_ne_true, fun h => absurd h Bool.false_ne_true, fun h => absurd h Bool.false_ne_true, fun h => absurd h Bool.false_ne_true, fun h => absurd h Bool.false_ne_true, fun h => absurd h Bool.false_ne_true, fun h => absurd h Bool.false_ne_true, fun h => absurd h Bool.false_ne_true, fun h => absurd h Bool.false_ne_true, fun h => absurd h Bool.false_ne_true⟩ ⟨?_, ?_, ?_, ?_, ?_, ?_, ?_, ?_, ?_, ?_, ?_, ?_, ?_, trivial⟩ ?_
  · rintro D ρ wx hD hd hdc hf ⟨hs, f0, f1, f2, f3, f4, f5, f6, f7, f8, f9, f10, f11, f12⟩
    have r0 : ρ 0 = .int .u16 x := outD hf 0 rfl
    exact .inl ⟨rfl, L_move (V := .int .u16 x) r0 ⟨hs, fun _ => rfl, f1, f2, f3, f4, f5, f6, f7, f8, f9, f10, f11, f12⟩⟩
  · rintro D ρ wx hD hd hdc hf ⟨hs, f0, f1, f2, f3, f4, f5, f6, f7, f8, f9, f10, f11, f12⟩
    have g0 := f0 (doneD hd 0 rfl)
    exact .inl ⟨rfl, L_callP (vs := [.int .u16 x]) (V := .bool false) EN_119 rfl (mapc g0 rfl) (isNaN_ok _ x) hs fun _ hs0 => ⟨hs0, f0, fun _ => rfl, f2, f3, f4, f5, f6, f7, f8, f9, f10, f11, f12⟩⟩
  · rintro D ρ wx hD hd hdc hf ⟨hs, f0, f1, f2, f3, f4, f5, f6, f7, f8, f9, f10, f11, f12⟩
    have g1 := f1 (doneD hd 1 rfl)
    exact .inl ⟨rfl, L_move (V := .bool false) g1 ⟨hs, f0, f1, fun _ => rfl, f3, f4, f5, f6, f7, f8, f9, f10, f11, f12⟩⟩
  · rintro D ρ wx hD hd hdc hf ⟨hs, f0, f1, f2, f3, f4, f5, f6, f7, f8, f9, f10, f11, f12⟩
    exact .inr ⟨(Eq.trans (wantG1 (j := 2) rfl (f2 (doneD hd 2 rfl))) rfl), ⟨hs, f0, f1, f2, fun _ => rfl, f4, f5, f6, f7, f8, f9, f10, f11, f12⟩⟩
  · rintro D ρ wx hD hd hdc hf ⟨hs, f0, f1, f2, f3, f4, f5, f6, f7, f8, f9, f10, f11, f12⟩
    exact .inr ⟨(Eq.trans (wantG1 (j := 2) rfl (f2 (doneD hd 2 rfl))) rfl), ⟨hs, f0, f1, f2, f3, fun _ => rfl, f5, f6, f7, f8, f9, f10, f11, f12⟩⟩
  · rintro D ρ wx hD hd hdc hf ⟨hs, f0, f1, f2, f3, f4, f5, f6, f7, f8, f9, f10, f11, f12⟩
    exact .inr ⟨(Eq.trans (wantG1 (j := 2) rfl (f2 (doneD hd 2 rfl))) rfl), ⟨hs, f0, f1, f2, f3, f4, fun _ => rfl, f6, f7, f8, f9, f10, f11, f12⟩⟩
  · rintro D ρ wx hD hd hdc hf ⟨hs, f0, f1, f2, f3, f4, f5, f6, f7, f8, f9, f10, f11, f12⟩
    have g2 := f2 (doneD hd 2 rfl)
    exact .inl ⟨rfl, L_pick (V := .bool false) g2 rfl ⟨hs, f0, f1, f2, f3, f4, f5, fun _ => rfl, f7, f8, f9, f10, f11, f12⟩⟩
  · rintro D ρ wx hD hd hdc hf ⟨hs, f0, f1, f2, f3, f4, f5, f6, f7, f8, f9, f10, f11, f12⟩
    have g6 := f6 (doneD hd 6 rfl)
    exact .inl ⟨rfl, L_move (V := .bool false) g6 ⟨hs, f0, f1, f2, f3, f4, f5, f6, fun _ => rfl, f8, f9, f10, f11, f12⟩⟩
  · rintro D ρ wx hD hd hdc hf ⟨hs, f0, f1, f2, f3, f4, f5, f6, f7, f8, f9, f10, f11, f12⟩
    have r0 : ρ 0 = .int .u16 x := outD hf 0 rfl
    exact .inl ⟨(Eq.trans (wantG1 (j := 7) rfl (f7 (doneD hd 7 rfl))) rfl), L_move (V := .int .u16 x) r0 ⟨hs, f0, f1, f2, f3, f4, f5, f6, f7, fun _ => rfl, f9, f10, f11, f12⟩⟩
  · rintro D ρ wx hD hd hdc hf ⟨hs, f0, f1, f2, f3, f4, f5, f6, f7, f8, f9, f10, f11, f12⟩
    have r1 : ρ 1 = .int .u16 y := outD hf 1 rfl
    exact .inl ⟨(Eq.trans (wantG1 (j := 7) rfl (f7 (doneD hd 7 rfl))) rfl), L_move (V := .int .u16 y) r1 ⟨hs, f0, f1, f2, f3, f4, f5, f6, f7, f8, fun _ => rfl, f10, f11, f12⟩⟩
  · rintro D ρ wx hD hd hdc hf ⟨hs, f0, f1, f2, f3, f4, f5, f6, f7, f8, f9, f10, f11, f12⟩
    have g8 := f8 (doneD hd 8 rfl)
    have g9 := f9 (doneD hd 9 rfl)
    exact .inl ⟨(Eq.trans (wantG1 (j := 7) rfl (f7 (doneD hd 7 rfl))) rfl), L_lss g8 g9 ⟨hs, f0, f1, f2, f3, f4, f5, f6, f7, f8, f9, fun _ => rfl, f11, f12⟩⟩
  · rintro D ρ wx hD hd hdc hf ⟨hs, f0, f1, f2, f3, f4, f5, f6, f7, f8, f9, f10, f11, f12⟩
    have g7 := f7 (doneD hd 7 rfl)
    have g10 := f10 (doneD hd 10 rfl)
    exact .inl ⟨rfl, L_pick (V := .bool (decide (x < y))) g7 g10 ⟨hs, f0, f1, f2, f3, f4, f5, f6, f7, f8, f9, f10, fun _ => rfl, f12⟩⟩
  · rintro D ρ wx hD hd hdc hf ⟨hs, f0, f1, f2, f3, f4, f5, f6, f7, f8, f9, f10, f11, f12⟩
    have g11 := f11 (doneD hd 11 rfl)
    exact .inl ⟨rfl, L_assign (V := .bool (decide (x < y))) g11 ⟨hs, f0, f1, f2, f3, f4, f5, f6, f7, f8, f9, f10, f11, fun _ => rfl⟩⟩
  · rintro ρ1 w1 D hD hf ⟨hs, f0, f1, f2, f3, f4, f5, f6, f7, f8, f9, f10, f11, f12⟩
    have e12 := f12 (hD 12 rfl)
    clear f0 f1 f2 f3 f4 f5 f6 f7 f8 f9 f10 f11 f12
    obtain ⟨ρ2, hρ⟩ : ∃ ρ2, ρ1 = upd (mix [5, 6, 7, 8, 9, 10, 11, 12, 13, 14, 15, 16, 4] ρ2 _) 4 (.bool (decide (x < y))) := ⟨ρ1, upd_of (mix_of (ds := [5, 6, 7, 8, 9, 10, 11, 12, 13, 14, 15, 16, 4]) hf) e12⟩
    clear hf hD e12
    subst hρ
    refine W_ret ?_
    refine ⟨_, res_one (V := .bool (decide (x < y))) Try.results108 rfl, ?_⟩
    refine ⟨congrArg Ending.returned ?_, hs.take 0⟩
    first | rfl | simp
theorem ins_yes {lo j : Nat} {d : Array Int} (h1 : ((lo : Nat) : Int) < ((j : Nat) : Int)) (h2 : d[j]! < d[j - 1]!) : Sort.insInner Sort.ltInt lo j d = Sort.insInner Sort.ltInt lo (j - 1) (Sort.swp d j (j - 1)) := by
  obtain ⟨i, rfl⟩ : ∃ i, j = i + 1 := ⟨j - 1, by omega⟩
  rw [Nat.add_sub_cancel] at *
  rw [Sort.insInner, if_pos]
  simp [Sort.ltInt, h2]; omega
theorem ins_no {lo j : Nat} {d : Array Int} (h : (decide (((lo : Nat) : Int) < ((j : Nat) : Int)) && decide (d[j]! < d[j - 1]!)) = false) : Sort.insInner Sort.ltInt lo j d = d := by
  cases j with
  | zero => rfl
  | succ i =>
    rw [Sort.insInner, if_neg]
    intro h2
    simp [Sort.ltInt] at h2 h
    have := h (by omega)
    omega
theorem out_yes {lo hi k : Nat} {d : Array Int} (h : ((k : Nat) : Int) < ((hi : Nat) : Int)) : Sort.insOuter Sort.ltInt lo hi k d = Sort.insOuter Sort.ltInt lo hi (k + 1) (Sort.insInner Sort.ltInt lo k d) := by
  rw [Sort.insOuter, if_pos (by omega)]
theorem out_no {lo hi k : Nat} {d : Array Int} (h : ¬ ((k : Nat) : Int) < ((hi : Nat) : Int)) : Sort.insOuter Sort.ltInt lo hi k d = d := by
  rw [Sort.insOuter, if_neg (by omega)]
set_option maxRecDepth 20000 in
set_option maxHeartbeats 4000000 in
theorem ins_ok (w : World) (S : Nat → Prop) (a : Option Addr) (N c : Nat) (d : Array Int) (hsz : d.size = N) (hN : N ≤ 2305843009213693951) (lo hi : Nat) (h1 : lo ≤ hi) (h2 : hi ≤ N) (hR : (row (.slice a N c) (d.toList.map (ic .u16)) 57 1).holds w S) (hlt : ∀ x, S x → x < w.heap.size) : Calls Try.prog 102 #[.slice a N c, .int .i64 ((lo : Nat) : Int), .int .i64 ((hi : Nat) : Int)] w (fun e w' => ∃ x : Unit, e = .returned (.tuple #[]) ∧ Own w S w' [row (.slice a N c) ((Sort.insertionSort Sort.ltInt d lo hi).toList.map (ic .u16)) 57 1] ∧ (Sort.insertionSort Sort.ltInt d lo hi).size = N) := by
  refine calls_of_Wn (n := 49) Try.func102 rfl Try.ntmps102 rfl ?_
  have hs := Own.lent hR hlt
  refine W_seq ?_
  refine W_region ?_
  refine RW_op (L_move (V := .int .i64 ((lo : Nat) : Int)) rfl ?_)
  refine RW_op (L_add (a := ((lo : Nat) : Int)) (b := 1) (c := ((lo + 1 : Nat) : Int)) rfl rfl (nat_i64 (by omega) (by omega)) ?_)
  refine RW_op (L_assign (V := .int .i64 ((lo + 1 : Nat) : Int)) rfl ?_)
  refine RW_nil ?_
  refine W_block ?_
  refine W_loopI (fun ρ m ρ' w' => ∃ (ρo : Env) (k : Nat) (d1 : Array Int), ρ' = upd (mix [6, 7, 10, 11, 12, 13, 14, 15, 16, 17, 18, 19, 20, 21, 22, 23, 24, 25, 26, 27, 28, 29, 30, 31, 32, 33, 34, 35, 36, 37, 38, 39, 40, 41, 42, 43, 44, 45, 46, 47, 48] ρo ρ) 6 (.int .i64 ((k : Nat) : Int)) ∧ (lo + 1 ≤ k) ∧ (k ≤ hi ∨ k = lo + 1) ∧ (d1.size = N) ∧ (Sort.insOuter Sort.ltInt lo hi k d1 = Sort.insertionSort Sort.ltInt d lo hi) ∧ m = hi - k ∧ Own w S w' [row (.slice a N c) (d1.toList.map (ic .u16)) 57 1]) ?_ ?_
  · exact ⟨_, _, lo + 1, d, upd_of (mix_of (ds := [6, 7, 10, 11, 12, 13, 14, 15, 16, 17, 18, 19, 20, 21, 22, 23, 24, 25, 26, 27, 28, 29, 30, 31, 32, 33, 34, 35, 36, 37, 38, 39, 40, 41, 42, 43, 44, 45, 46, 47, 48]) (Agr.refl _ _)) rfl, (Nat.le_refl _), (Or.inr rfl), hsz, rfl, rfl, hs⟩
  · rintro m ρ' w1 ⟨ρo, k, d1, rfl, hk0, hk, hz1, hev, rfl, hs⟩
    refine W_seq ?_
    refine W_seq ?_
    refine W_region ?_
    refine RW_op (L_move (V := .int .i64 ((k : Nat) : Int)) rfl ?_)
    refine RW_op (L_move (V := .int .i64 ((hi : Nat) : Int)) rfl ?_)
    refine RW_op (L_lss rfl rfl ?_)
    refine RW_nil ?_
    refine W_cond (t := decide (((k : Nat) : Int) < ((hi : Nat) : Int))) rfl (fun c2 => ?_) (fun c2 => ?_)
    ·
      replace c2 := of_decide_eq_true c2
      refine W_skip ?_
      refine W_seq ?_
      refine W_block ?_
      refine W_seq ?_
      refine W_region ?_
      refine RW_op (L_move (V := .int .i64 ((k : Nat) : Int)) rfl ?_)
      refine RW_op (L_assign (V := .int .i64 ((k : Nat) : Int)) rfl ?_)
      refine RW_nil ?_
      refine W_block ?_
      refine W_loopI (fun ρ m ρ' w' => ∃ (ρo : Env) (j : Nat) (d2 : Array Int), ρ' = upd (mix [7, 16, 17, 18, 19, 20, 21, 22, 23, 24, 25, 26, 27, 28, 29, 30, 31, 32, 33, 34, 35, 36, 37, 38, 39, 40, 41, 42, 43, 44, 45, 46, 47, 48] ρo ρ) 7 (.int .i64 ((j : Nat) : Int)) ∧ (lo ≤ j) ∧ (j ≤ k) ∧ (d2.size = N) ∧ (Sort.insInner Sort.ltInt lo j d2 = Sort.insInner Sort.ltInt lo k d1) ∧ m = 2 * j ∧ Own w S w' [row (.slice a N c) (d2.toList.map (ic .u16)) 57 1]) ?_ ?_
      · exact ⟨_, _, k, d1, upd_of (mix_of (ds := [7, 16, 17, 18, 19, 20, 21, 22, 23, 24, 25, 26, 27, 28, 29, 30, 31, 32, 33, 34, 35, 36, 37, 38, 39, 40, 41, 42, 43, 44, 45, 46, 47, 48]) (Agr.refl _ _)) rfl, (by omega), (Nat.le_refl _), hz1, rfl, rfl, hs⟩
      · rintro m ρ' w3 ⟨ρo, j, d2, rfl, hj0, hj, hz2, hin, rfl, hs⟩
        refine W_seq ?_
        refine W_seq ?_
        replace hs := hs.drew
        refine W_draw2 HM [16, 17, 18, 19, 20, 21, 22, 23, 24, 25, 26, 27, 28, 29, 30] [[], [], [0, 1], [2], [3], [3], [4, 5, 3], [6, 3], [3], [3], [9, 3], [8, 10, 3], [11, 3], [7, 12, 3, 3], [3, 13]] (fun D ρ wx => Own w S wx [row (.slice a N c) (d2.toList.map (ic .u16)) 57 1] ∧ (D 0 = true → ρ 16 = .int .i64 ((j : Nat) : Int)) ∧ (D 1 = true → ρ 17 = .int .i64 ((lo : Nat) : Int)) ∧ (D 2 = true → ρ 18 = .bool (decide (((lo : Nat) : Int) < ((j : Nat) : Int)))) ∧ (D 3 = true → ρ 19 = .bool (decide (((lo : Nat) : Int) < ((j : Nat) : Int)))) ∧ (D 4 = true → ρ 20 = cond ((decide (((lo : Nat) : Int) < ((j : Nat) : Int))) == true) (.slice a N c) undef) ∧ (D 5 = true → ρ 21 = cond ((decide (((lo : Nat) : Int) < ((j : Nat) : Int))) == true) (.int .i64 ((j : Nat) : Int)) undef) ∧ (D 6 = true → ρ 22 = cond ((decide (((lo : Nat) : Int) < ((j : Nat) : Int))) == true) (.pointer (some ⟨bkS (.slice a N c), ofS (.slice a N c) + ((j : Nat) : Int).toNat * 1, none⟩)) undef) ∧ (D 7 = true → ρ 23 = cond ((decide (((lo : Nat) : Int) < ((j : Nat) : Int))) == true) (.int .u16 (d2[j]!)) undef) ∧ (D 8 = true → ρ 24 = cond ((decide (((lo : Nat) : Int) < ((j : Nat) : Int))) == true) (.slice a N c) undef) ∧ (D 9 = true → ρ 25 = cond ((decide (((lo : Nat) : Int) < ((j : Nat) : Int))) == true) (.int .i64 ((j : Nat) : Int)) undef) ∧ (D 10 = true → ρ 26 = cond ((decide (((lo : Nat) : Int) < ((j : Nat) : Int))) == true) (.int .i64 ((j - 1 : Nat) : Int)) undef) ∧ (D 11 = true → ρ 27 = cond ((decide (((lo : Nat) : Int) < ((j : Nat) : Int))) == true) (.pointer (some ⟨bkS (.slice a N c), ofS (.slice a N c) + ((j - 1 : Nat) : Int).toNat * 1, none⟩)) undef) ∧ (D 12 = true → ρ 28 = cond ((decide (((lo : Nat) : Int) < ((j : Nat) : Int))) == true) (.int .u16 (d2[j - 1]!)) undef) ∧ (D 13 = true → ρ 29 = cond ((decide (((lo : Nat) : Int) < ((j : Nat) : Int))) == true) (.bool (decide (d2[j]! < d2[j - 1]!))) undef) ∧ (D 14 = true → ρ 30 = .bool ((decide (((lo : Nat) : Int) < ((j : Nat) : Int))) && (decide (d2[j]! < d2[j - 1]!))))) rfl rfl rfl ⟨hs, fun h => absurd h Bool.false_ne_true, fun h => absurd h Bool.false_ne_true, fun h => absurd h Bool.false_ne_true, fun h => absurd h Bool.false_ne_true, fun h => absurd h Bool.false_ne_true, fun h => absurd h Bool.false_ne_true, fun h => absurd h Bool.false_ne_true, fun h => absurd h Bool.false_ne_true, fun h => absurd h Bool.false_ne_true, fun h => absurd h Bool.false_ne_true, fun h => absurd h Bool.false_ne_true, fun h => absurd h Bool.false_ne_true, fun h => absurd h Bool.false_ne_true, fun h => absurd h Bool.false_ne_true, fun h => absurd h Bool.false_ne_true⟩ ⟨?_, ?_, ?_, ?_, ?_, ?_, ?_, ?_, ?_, ?_, ?_, ?_, ?_, ?_, ?_, trivial⟩ ?_
        · rintro D ρ wx hD hd hdc hf ⟨hs, f0, f1, f2, f3, f4, f5, f6, f7, f8, f9, f10, f11, f12, f13, f14⟩
          have r7 : ρ 7 = .int .i64 ((j : Nat) : Int) := outD hf 7 rfl
          exact .inl ⟨rfl, L_move (V := .int .i64 ((j : Nat) : Int)) r7 ⟨hs, fun _ => rfl, f1, f2, f3, f4, f5, f6, f7, f8, f9, f10, f11, f12, f13, f14⟩⟩
        · rintro D ρ wx hD hd hdc hf ⟨hs, f0, f1, f2, f3, f4, f5, f6, f7, f8, f9, f10, f11, f12, f13, f14⟩
          have r1 : ρ 1 = .int .i64 ((lo : Nat) : Int) := outD hf 1 rfl
          exact .inl ⟨rfl, L_move (V := .int .i64 ((lo : Nat) : Int)) r1 ⟨hs, f0, fun _ => rfl, f2, f3, f4, f5, f6, f7, f8, f9, f10, f11, f12, f13, f14⟩⟩
        · rintro D ρ wx hD hd hdc hf ⟨hs, f0, f1, f2, f3, f4, f5, f6, f7, f8, f9, f10, f11, f12, f13, f14⟩
          have g0 := f0 (doneD hd 0 rfl)
          have g1 := f1 (doneD hd 1 rfl)
          exact .inl ⟨rfl, L_gtr g0 g1 ⟨hs, f0, f1, fun _ => rfl, f3, f4, f5, f6, f7, f8, f9, f10, f11, f12, f13, f14⟩⟩
        · rintro D ρ wx hD hd hdc hf ⟨hs, f0, f1, f2, f3, f4, f5, f6, f7, f8, f9, f10, f11, f12, f13, f14⟩
          have g2 := f2 (doneD hd 2 rfl)
          exact .inl ⟨rfl, L_move (V := .bool (decide (((lo : Nat) : Int) < ((j : Nat) : Int)))) g2 ⟨hs, f0, f1, f2, fun _ => rfl, f4, f5, f6, f7, f8, f9, f10, f11, f12, f13, f14⟩⟩
        · rintro D ρ wx hD hd hdc hf ⟨hs, f0, f1, f2, f3, f4, f5, f6, f7, f8, f9, f10, f11, f12, f13, f14⟩
          have r0 : ρ 0 = .slice a N c := outD hf 0 rfl
          rcases Bool.eq_false_or_eq_true ((decide (((lo : Nat) : Int) < ((j : Nat) : Int))) == true) with hG | hG
          rotate_left
          · exact .inr ⟨(Eq.trans (wantG1 (j := 3) rfl (f3 (doneD hd 3 rfl))) hG), ⟨hs, f0, f1, f2, f3, fun _ => (condF hG).symm, f5, f6, f7, f8, f9, f10, f11, f12, f13, f14⟩⟩
          ·
            have hgd := of_decide_eq_true (eq_of_beq hG)
            exact .inl ⟨(Eq.trans (wantG1 (j := 3) rfl (f3 (doneD hd 3 rfl))) hG), L_move (V := .slice a N c) r0 ⟨hs, f0, f1, f2, f3, fun _ => (condT hG).symm, f5, f6, f7, f8, f9, f10, f11, f12, f13, f14⟩⟩
        · rintro D ρ wx hD hd hdc hf ⟨hs, f0, f1, f2, f3, f4, f5, f6, f7, f8, f9, f10, f11, f12, f13, f14⟩
          have r7 : ρ 7 = .int .i64 ((j : Nat) : Int) := outD hf 7 rfl
          rcases Bool.eq_false_or_eq_true ((decide (((lo : Nat) : Int) < ((j : Nat) : Int))) == true) with hG | hG
          rotate_left
          · exact .inr ⟨(Eq.trans (wantG1 (j := 3) rfl (f3 (doneD hd 3 rfl))) hG), ⟨hs, f0, f1, f2, f3, f4, fun _ => (condF hG).symm, f6, f7, f8, f9, f10, f11, f12, f13, f14⟩⟩
          ·
            have hgd := of_decide_eq_true (eq_of_beq hG)
            exact .inl ⟨(Eq.trans (wantG1 (j := 3) rfl (f3 (doneD hd 3 rfl))) hG), L_move (V := .int .i64 ((j : Nat) : Int)) r7 ⟨hs, f0, f1, f2, f3, f4, fun _ => (condT hG).symm, f6, f7, f8, f9, f10, f11, f12, f13, f14⟩⟩
        · rintro D ρ wx hD hd hdc hf ⟨hs, f0, f1, f2, f3, f4, f5, f6, f7, f8, f9, f10, f11, f12, f13, f14⟩
          have g4 := f4 (doneD hd 4 rfl)
          have g5 := f5 (doneD hd 5 rfl)
          rcases Bool.eq_false_or_eq_true ((decide (((lo : Nat) : Int) < ((j : Nat) : Int))) == true) with hG | hG
          rotate_left
          · exact .inr ⟨(Eq.trans (wantG1 (j := 3) rfl (f3 (doneD hd 3 rfl))) hG), ⟨hs, f0, f1, f2, f3, f4, f5, fun _ => (condF hG).symm, f7, f8, f9, f10, f11, f12, f13, f14⟩⟩
          ·
            have hgd := of_decide_eq_true (eq_of_beq hG)
            exact .inl ⟨(Eq.trans (wantG1 (j := 3) rfl (f3 (doneD hd 3 rfl))) hG), L_ixR UD_72 S1_57.1 (hs.rd 0 rfl) ((g4).trans (condT (by exact hG))) ((g5).trans (condT (by exact hG))) (by omega) (by simp only [List.length_map, Array.length_toList, Array.size_setIfInBounds, Go.Sort.size_swp]; omega) ⟨hs, f0, f1, f2, f3, f4, f5, fun _ => (condT hG).symm, f7, f8, f9, f10, f11, f12, f13, f14⟩⟩
        · rintro D ρ wx hD hd hdc hf ⟨hs, f0, f1, f2, f3, f4, f5, f6, f7, f8, f9, f10, f11, f12, f13, f14⟩
          have g6 := f6 (doneD hd 6 rfl)
          rcases Bool.eq_false_or_eq_true ((decide (((lo : Nat) : Int) < ((j : Nat) : Int))) == true) with hG | hG
          rotate_left
          · exact .inr ⟨(Eq.trans (wantG1 (j := 3) rfl (f3 (doneD hd 3 rfl))) hG), ⟨hs, f0, f1, f2, f3, f4, f5, f6, fun _ => (condF hG).symm, f8, f9, f10, f11, f12, f13, f14⟩⟩
          ·
            have hgd := of_decide_eq_true (eq_of_beq hG)
            exact .inl ⟨(Eq.trans (wantG1 (j := 3) rfl (f3 (doneD hd 3 rfl))) hG), L_ldR (j := 0) (V := .int .u16 (d2[j]!)) j S1_57 (hs.rd 0 rfl) (da_at (by omega)) rfl ((g6).trans (condT (by exact hG))) (by omega) ⟨hs, f0, f1, f2, f3, f4, f5, f6, fun _ => (condT hG).symm, f8, f9, f10, f11, f12, f13, f14⟩⟩
        · rintro D ρ wx hD hd hdc hf ⟨hs, f0, f1, f2, f3, f4, f5, f6, f7, f8, f9, f10, f11, f12, f13, f14⟩
          have r0 : ρ 0 = .slice a N c := outD hf 0 rfl
          rcases Bool.eq_false_or_eq_true ((decide (((lo : Nat) : Int) < ((j : Nat) : Int))) == true) with hG | hG
          rotate_left
          · exact .inr ⟨(Eq.trans (wantG1 (j := 3) rfl (f3 (doneD hd 3 rfl))) hG), ⟨hs, f0, f1, f2, f3, f4, f5, f6, f7, fun _ => (condF hG).symm, f9, f10, f11, f12, f13, f14⟩⟩
          ·
            have hgd := of_decide_eq_true (eq_of_beq hG)
            exact .inl ⟨(Eq.trans (wantG1 (j := 3) rfl (f3 (doneD hd 3 rfl))) hG), L_move (V := .slice a N c) r0 ⟨hs, f0, f1, f2, f3, f4, f5, f6, f7, fun _ => (condT hG).symm, f9, f10, f11, f12, f13, f14⟩⟩
        · rintro D ρ wx hD hd hdc hf ⟨hs, f0, f1, f2, f3, f4, f5, f6, f7, f8, f9, f10, f11, f12, f13, f14⟩
          have r7 : ρ 7 = .int .i64 ((j : Nat) : Int) := outD hf 7 rfl
          rcases Bool.eq_false_or_eq_true ((decide (((lo : Nat) : Int) < ((j : Nat) : Int))) == true) with hG | hG
          rotate_left
          · exact .inr ⟨(Eq.trans (wantG1 (j := 3) rfl (f3 (doneD hd 3 rfl))) hG), ⟨hs, f0, f1, f2, f3, f4, f5, f6, f7, f8, fun _ => (condF hG).symm, f10, f11, f12, f13, f14⟩⟩
          ·
            have hgd := of_decide_eq_true (eq_of_beq hG)
            exact .inl ⟨(Eq.trans (wantG1 (j := 3) rfl (f3 (doneD hd 3 rfl))) hG), L_move (V := .int .i64 ((j : Nat) : Int)) r7 ⟨hs, f0, f1, f2, f3, f4, f5, f6, f7, f8, fun _ => (condT hG).symm, f10, f11, f12, f13, f14⟩⟩
        · rintro D ρ wx hD hd hdc hf ⟨hs, f0, f1, f2, f3, f4, f5, f6, f7, f8, f9, f10, f11, f12, f13, f14⟩
          have g9 := f9 (doneD hd 9 rfl)
          rcases Bool.eq_false_or_eq_true ((decide (((lo : Nat) : Int) < ((j : Nat) : Int))) == true) with hG | hG
          rotate_left
          · exact .inr ⟨(Eq.trans (wantG1 (j := 3) rfl (f3 (doneD hd 3 rfl))) hG), ⟨hs, f0, f1, f2, f3, f4, f5, f6, f7, f8, f9, fun _ => (condF hG).symm, f11, f12, f13, f14⟩⟩
          ·
            have hgd := of_decide_eq_true (eq_of_beq hG)
            exact .inl ⟨(Eq.trans (wantG1 (j := 3) rfl (f3 (doneD hd 3 rfl))) hG), L_sub (a := ((j : Nat) : Int)) (b := 1) (c := ((j - 1 : Nat) : Int)) ((g9).trans (condT (by exact hG))) rfl (nat_i64 (by omega) (by omega)) ⟨hs, f0, f1, f2, f3, f4, f5, f6, f7, f8, f9, fun _ => (condT hG).symm, f11, f12, f13, f14⟩⟩
        · rintro D ρ wx hD hd hdc hf ⟨hs, f0, f1, f2, f3, f4, f5, f6, f7, f8, f9, f10, f11, f12, f13, f14⟩
          have g8 := f8 (doneD hd 8 rfl)
          have g10 := f10 (doneD hd 10 rfl)
          rcases Bool.eq_false_or_eq_true ((decide (((lo : Nat) : Int) < ((j : Nat) : Int))) == true) with hG | hG
          rotate_left
          · exact .inr ⟨(Eq.trans (wantG1 (j := 3) rfl (f3 (doneD hd 3 rfl))) hG), ⟨hs, f0, f1, f2, f3, f4, f5, f6, f7, f8, f9, f10, fun _ => (condF hG).symm, f12, f13, f14⟩⟩
          ·
            have hgd := of_decide_eq_true (eq_of_beq hG)
            exact .inl ⟨(Eq.trans (wantG1 (j := 3) rfl (f3 (doneD hd 3 rfl))) hG), L_ixR UD_72 S1_57.1 (hs.rd 0 rfl) ((g8).trans (condT (by exact hG))) ((g10).trans (condT (by exact hG))) (by omega) (by simp only [List.length_map, Array.length_toList, Array.size_setIfInBounds, Go.Sort.size_swp]; omega) ⟨hs, f0, f1, f2, f3, f4, f5, f6, f7, f8, f9, f10, fun _ => (condT hG).symm, f12, f13, f14⟩⟩
        · rintro D ρ wx hD hd hdc hf ⟨hs, f0, f1, f2, f3, f4, f5, f6, f7, f8, f9, f10, f11, f12, f13, f14⟩
          have g11 := f11 (doneD hd 11 rfl)
          rcases Bool.eq_false_or_eq_true ((decide (((lo : Nat) : Int) < ((j : Nat) : Int))) == true) with hG | hG
          rotate_left
          · exact .inr ⟨(Eq.trans (wantG1 (j := 3) rfl (f3 (doneD hd 3 rfl))) hG), ⟨hs, f0, f1, f2, f3, f4, f5, f6, f7, f8, f9, f10, f11, fun _ => (condF hG).symm, f13, f14⟩⟩
          ·
            have hgd := of_decide_eq_true (eq_of_beq hG)
            exact .inl ⟨(Eq.trans (wantG1 (j := 3) rfl (f3 (doneD hd 3 rfl))) hG), L_ldR (j := 0) (V := .int .u16 (d2[j - 1]!)) (j - 1) S1_57 (hs.rd 0 rfl) (da_at (by omega)) rfl ((g11).trans (condT (by exact hG))) (by omega) ⟨hs, f0, f1, f2, f3, f4, f5, f6, f7, f8, f9, f10, f11, fun _ => (condT hG).symm, f13, f14⟩⟩
        · rintro D ρ wx hD hd hdc hf ⟨hs, f0, f1, f2, f3, f4, f5, f6, f7, f8, f9, f10, f11, f12, f13, f14⟩
          have g7 := f7 (doneD hd 7 rfl)
          have g12 := f12 (doneD hd 12 rfl)
          rcases Bool.eq_false_or_eq_true ((decide (((lo : Nat) : Int) < ((j : Nat) : Int))) == true) with hG | hG
          rotate_left
          · exact .inr ⟨(Eq.trans (wantG1 (j := 3) rfl (f3 (doneD hd 3 rfl))) hG), ⟨hs, f0, f1, f2, f3, f4, f5, f6, f7, f8, f9, f10, f11, f12, fun _ => (condF hG).symm, f14⟩⟩
          ·
            have hgd := of_decide_eq_true (eq_of_beq hG)
            exact .inl ⟨(Eq.trans (wantG1 (j := 3) rfl (f3 (doneD hd 3 rfl))) hG), L_callP (vs := [.int .u16 (d2[j]!), .int .u16 (d2[j - 1]!)]) (V := .bool (decide (d2[j]! < d2[j - 1]!))) EN_108 rfl (mapc ((g7).trans (condT (by exact hG))) (mapc ((g12).trans (condT (by exact hG))) rfl)) (less_ok _ (d2[j]!) (d2[j - 1]!)) hs fun _ hs0 => ⟨hs0, f0, f1, f2, f3, f4, f5, f6, f7, f8, f9, f10, f11, f12, fun _ => (condT hG).symm, f14⟩⟩
        · rintro D ρ wx hD hd hdc hf ⟨hs, f0, f1, f2, f3, f4, f5, f6, f7, f8, f9, f10, f11, f12, f13, f14⟩
          have g3 := f3 (doneD hd 3 rfl)
          have g13 := f13 (doneD hd 13 rfl)
          exact .inl ⟨rfl, L_and g3 rfl (fun hg => ((g13).trans (condT (by first | exact beqT hg | rfl)))) ⟨hs, f0, f1, f2, f3, f4, f5, f6, f7, f8, f9, f10, f11, f12, f13, fun _ => rfl⟩⟩
        · rintro ρ1 w1 D hD hf ⟨hs, f0, f1, f2, f3, f4, f5, f6, f7, f8, f9, f10, f11, f12, f13, f14⟩
          have e14 := f14 (hD 14 rfl)
          clear f0 f1 f2 f3 f4 f5 f6 f7 f8 f9 f10 f11 f12 f13 f14
          obtain ⟨ρ2, hρ⟩ : ∃ ρ2, ρ1 = upd (mix [16, 17, 18, 19, 20, 21, 22, 23, 24, 25, 26, 27, 28, 29, 30] ρ2 _) 30 (.bool ((decide (((lo : Nat) : Int) < ((j : Nat) : Int))) && (decide (d2[j]! < d2[j - 1]!)))) := ⟨ρ1, upd_of (mix_of (ds := [16, 17, 18, 19, 20, 21, 22, 23, 24, 25, 26, 27, 28, 29, 30]) hf) e14⟩
          clear hf hD e14
          subst hρ
          refine W_cond (t := (decide (((lo : Nat) : Int) < ((j : Nat) : Int))) && (decide (d2[j]! < d2[j - 1]!))) rfl (fun c6 => ?_) (fun c6 => ?_)
          ·
            have c6r := and_r c6
            replace c6 := and_l c6
            replace c6 := of_decide_eq_true c6
            replace c6r := of_decide_eq_true c6r
            refine W_skip ?_
            refine W_seq ?_
            refine W_block ?_
            replace hs := hs.drew
            refine W_draw2 HM [33, 34, 35, 36, 37, 38, 39, 40, 41, 42, 43, 44, 45, 46, 47, 48] [[], [], [], [], [3], [], [], [6], [5, 7], [8], [], [], [10, 11], [12], [0, 1, 0, 1, 5, 6, 7, 8, 9, 13], [14, 9, 0, 1, 5, 6, 7, 8, 9, 13], [2, 4, 0, 1, 2, 3, 4, 5, 6, 7, 8, 9, 10, 11, 12, 13, 14, 15], [16, 13, 15, 0, 1, 2, 3, 4, 5, 6, 7, 8, 9, 10, 11, 12, 13, 14, 15]] (fun D ρ wx => Own w S wx [cond (D 17) (row (.slice a N c) ((((d2.setIfInBounds j (d2[j - 1]!)).setIfInBounds (j - 1) (d2[j]!)).toList).map (ic .u16)) 57 1) (cond (D 15) (row (.slice a N c) (((d2.setIfInBounds j (d2[j - 1]!)).toList).map (ic .u16)) 57 1) (row (.slice a N c) (d2.toList.map (ic .u16)) 57 1))] ∧ (D 0 = true → ρ 33 = .slice a N c) ∧ (D 1 = true → ρ 34 = .int .i64 ((j : Nat) : Int)) ∧ (D 2 = true → ρ 35 = .slice a N c) ∧ (D 3 = true → ρ 36 = .int .i64 ((j : Nat) : Int)) ∧ (D 4 = true → ρ 37 = .int .i64 ((j - 1 : Nat) : Int)) ∧ (D 5 = true → ρ 38 = .slice a N c) ∧ (D 6 = true → ρ 39 = .int .i64 ((j : Nat) : Int)) ∧ (D 7 = true → ρ 40 = .int .i64 ((j - 1 : Nat) : Int)) ∧ (D 8 = true → ρ 41 = .pointer (some ⟨bkS (.slice a N c), ofS (.slice a N c) + ((j - 1 : Nat) : Int).toNat * 1, none⟩)) ∧ (D 9 = true → ρ 42 = .int .u16 (d2[j - 1]!)) ∧ (D 10 = true → ρ 43 = .slice a N c) ∧ (D 11 = true → ρ 44 = .int .i64 ((j : Nat) : Int)) ∧ (D 12 = true → ρ 45 = .pointer (some ⟨bkS (.slice a N c), ofS (.slice a N c) + ((j : Nat) : Int).toNat * 1, none⟩)) ∧ (D 13 = true → ρ 46 = .int .u16 (d2[j]!)) ∧ (D 14 = true → ρ 47 = .pointer (some ⟨bkS (.slice a N c), ofS (.slice a N c) + ((j : Nat) : Int).toNat * 1, none⟩)) ∧ (True) ∧ (D 16 = true → ρ 48 = .pointer (some ⟨bkS (.slice a N c), ofS (.slice a N c) + ((j - 1 : Nat) : Int).toNat * 1, none⟩)) ∧ (True)) rfl rfl rfl ⟨hs, fun h => absurd h Bool.false_ne_true, fun h => absurd h Bool.false_ne_true, fun h => absurd h Bool.false_ne_true, fun h => absurd h Bool.false_ne_true, fun h => absurd h Bool.false_ne_true, fun h => absurd h Bool.false_ne_true, fun h => absurd h Bool.false_ne_true, fun h => absurd h Bool.false_ne_true, fun h => absurd h Bool.false_ne_true, fun h => absurd h Bool.false_ne_true, fun h => absurd h Bool.false_ne_true, fun h => absurd h Bool.false_ne_true, fun h => absurd h Bool.false_ne_true, fun h => absurd h Bool.false_ne_true, fun h => absurd h Bool.false_ne_true, trivial, fun h => absurd h Bool.false_ne_true, trivial⟩ ⟨?_, ?_, ?_, ?_, ?_, ?_, ?_, ?_, ?_, ?_, ?_, ?_, ?_, ?_, ?_, ?_, ?_, ?_, trivial⟩ ?_
            · rintro D ρ wx hD hd hdc hf ⟨hs, f0, f1, f2, f3, f4, f5, f6, f7, f8, f9, f10, f11, f12, f13, f14, f15, f16, f17⟩
              have r0 : ρ 0 = .slice a N c := outD hf 0 rfl
              exact .inl ⟨rfl, L_move (V := .slice a N c) r0 ⟨hs, fun _ => rfl, f1, f2, f3, f4, f5, f6, f7, f8, f9, f10, f11, f12, f13, f14, f15, f16, f17⟩⟩
            · rintro D ρ wx hD hd hdc hf ⟨hs, f0, f1, f2, f3, f4, f5, f6, f7, f8, f9, f10, f11, f12, f13, f14, f15, f16, f17⟩
              have r7 : ρ 7 = .int .i64 ((j : Nat) : Int) := outD hf 7 rfl
              exact .inl ⟨rfl, L_move (V := .int .i64 ((j : Nat) : Int)) r7 ⟨hs, f0, fun _ => rfl, f2, f3, f4, f5, f6, f7, f8, f9, f10, f11, f12, f13, f14, f15, f16, f17⟩⟩
            · rintro D ρ wx hD hd hdc hf ⟨hs, f0, f1, f2, f3, f4, f5, f6, f7, f8, f9, f10, f11, f12, f13, f14, f15, f16, f17⟩
              have r0 : ρ 0 = .slice a N c := outD hf 0 rfl
              exact .inl ⟨rfl, L_move (V := .slice a N c) r0 ⟨hs, f0, f1, fun _ => rfl, f3, f4, f5, f6, f7, f8, f9, f10, f11, f12, f13, f14, f15, f16, f17⟩⟩
            · rintro D ρ wx hD hd hdc hf ⟨hs, f0, f1, f2, f3, f4, f5, f6, f7, f8, f9, f10, f11, f12, f13, f14, f15, f16, f17⟩
              have r7 : ρ 7 = .int .i64 ((j : Nat) : Int) := outD hf 7 rfl
              exact .inl ⟨rfl, L_move (V := .int .i64 ((j : Nat) : Int)) r7 ⟨hs, f0, f1, f2, fun _ => rfl, f4, f5, f6, f7, f8, f9, f10, f11, f12, f13, f14, f15, f16, f17⟩⟩
            · rintro D ρ wx hD hd hdc hf ⟨hs, f0, f1, f2, f3, f4, f5, f6, f7, f8, f9, f10, f11, f12, f13, f14, f15, f16, f17⟩
              have g3 := f3 (doneD hd 3 rfl)
              exact .inl ⟨rfl, L_sub (a := ((j : Nat) : Int)) (b := 1) (c := ((j - 1 : Nat) : Int)) g3 rfl (nat_i64 (by omega) (by omega)) ⟨hs, f0, f1, f2, f3, fun _ => rfl, f5, f6, f7, f8, f9, f10, f11, f12, f13, f14, f15, f16, f17⟩⟩
            · rintro D ρ wx hD hd hdc hf ⟨hs, f0, f1, f2, f3, f4, f5, f6, f7, f8, f9, f10, f11, f12, f13, f14, f15, f16, f17⟩
              have r0 : ρ 0 = .slice a N c := outD hf 0 rfl
              exact .inl ⟨rfl, L_move (V := .slice a N c) r0 ⟨hs, f0, f1, f2, f3, f4, fun _ => rfl, f6, f7, f8, f9, f10, f11, f12, f13, f14, f15, f16, f17⟩⟩
            · rintro D ρ wx hD hd hdc hf ⟨hs, f0, f1, f2, f3, f4, f5, f6, f7, f8, f9, f10, f11, f12, f13, f14, f15, f16, f17⟩
              have r7 : ρ 7 = .int .i64 ((j : Nat) : Int) := outD hf 7 rfl
              exact .inl ⟨rfl, L_move (V := .int .i64 ((j : Nat) : Int)) r7 ⟨hs, f0, f1, f2, f3, f4, f5, fun _ => rfl, f7, f8, f9, f10, f11, f12, f13, f14, f15, f16, f17⟩⟩
            · rintro D ρ wx hD hd hdc hf ⟨hs, f0, f1, f2, f3, f4, f5, f6, f7, f8, f9, f10, f11, f12, f13, f14, f15, f16, f17⟩
              have g6 := f6 (doneD hd 6 rfl)
              exact .inl ⟨rfl, L_sub (a := ((j : Nat) : Int)) (b := 1) (c := ((j - 1 : Nat) : Int)) g6 rfl (nat_i64 (by omega) (by omega)) ⟨hs, f0, f1, f2, f3, f4, f5, f6, fun _ => rfl, f8, f9, f10, f11, f12, f13, f14, f15, f16, f17⟩⟩
            · rintro D ρ wx hD hd hdc hf ⟨hs, f0, f1, f2, f3, f4, f5, f6, f7, f8, f9, f10, f11, f12, f13, f14, f15, f16, f17⟩
              have g5 := f5 (doneD hd 5 rfl)
              have g7 := f7 (doneD hd 7 rfl)
              have d15 : D 15 = false := (notYetD hdc (j := 15) rfl rfl hD)
              have d17 : D 17 = false := (notYetD hdc (j := 17) rfl rfl hD)
              have hs0 := hs; rw [d15, d17] at hs0
              exact .inl ⟨rfl, L_ixR UD_72 S1_57.1 (hs0.rd 0 rfl) g5 g7 (by omega) (by simp only [List.length_map, Array.length_toList, Array.size_setIfInBounds, Go.Sort.size_swp]; omega) ⟨hs, f0, f1, f2, f3, f4, f5, f6, f7, fun _ => rfl, f9, f10, f11, f12, f13, f14, f15, f16, f17⟩⟩
            · rintro D ρ wx hD hd hdc hf ⟨hs, f0, f1, f2, f3, f4, f5, f6, f7, f8, f9, f10, f11, f12, f13, f14, f15, f16, f17⟩
              have g8 := f8 (doneD hd 8 rfl)
              have d15 : D 15 = false := (notYetD hdc (j := 15) rfl rfl hD)
              have d17 : D 17 = false := (notYetD hdc (j := 17) rfl rfl hD)
              have hs0 := hs; rw [d15, d17] at hs0
              exact .inl ⟨rfl, L_ldR (j := 0) (V := .int .u16 (d2[j - 1]!)) (j - 1) S1_57 (hs0.rd 0 rfl) (da_at (by omega)) rfl g8 (by omega) ⟨hs, f0, f1, f2, f3, f4, f5, f6, f7, f8, fun _ => rfl, f10, f11, f12, f13, f14, f15, f16, f17⟩⟩
            · rintro D ρ wx hD hd hdc hf ⟨hs, f0, f1, f2, f3, f4, f5, f6, f7, f8, f9, f10, f11, f12, f13, f14, f15, f16, f17⟩
              have r0 : ρ 0 = .slice a N c := outD hf 0 rfl
              exact .inl ⟨rfl, L_move (V := .slice a N c) r0 ⟨hs, f0, f1, f2, f3, f4, f5, f6, f7, f8, f9, fun _ => rfl, f11, f12, f13, f14, f15, f16, f17⟩⟩
            · rintro D ρ wx hD hd hdc hf ⟨hs, f0, f1, f2, f3, f4, f5, f6, f7, f8, f9, f10, f11, f12, f13, f14, f15, f16, f17⟩
              have r7 : ρ 7 = .int .i64 ((j : Nat) : Int) := outD hf 7 rfl
              exact .inl ⟨rfl, L_move (V := .int .i64 ((j : Nat) : Int)) r7 ⟨hs, f0, f1, f2, f3, f4, f5, f6, f7, f8, f9, f10, fun _ => rfl, f12, f13, f14, f15, f16, f17⟩⟩
            · rintro D ρ wx hD hd hdc hf ⟨hs, f0, f1, f2, f3, f4, f5, f6, f7, f8, f9, f10, f11, f12, f13, f14, f15, f16, f17⟩
              have g10 := f10 (doneD hd 10 rfl)
              have g11 := f11 (doneD hd 11 rfl)
              have d15 : D 15 = false := (notYetD hdc (j := 15) rfl rfl (notYetD hdc (j := 13) rfl rfl hD))
              have d17 : D 17 = false := (notYetD hdc (j := 17) rfl rfl hD)
              have hs0 := hs; rw [d15, d17] at hs0
              exact .inl ⟨rfl, L_ixR UD_72 S1_57.1 (hs0.rd 0 rfl) g10 g11 (by omega) (by simp only [List.length_map, Array.length_toList, Array.size_setIfInBounds, Go.Sort.size_swp]; omega) ⟨hs, f0, f1, f2, f3, f4, f5, f6, f7, f8, f9, f10, f11, fun _ => rfl, f13, f14, f15, f16, f17⟩⟩
            · rintro D ρ wx hD hd hdc hf ⟨hs, f0, f1, f2, f3, f4, f5, f6, f7, f8, f9, f10, f11, f12, f13, f14, f15, f16, f17⟩
              have g12 := f12 (doneD hd 12 rfl)
              have d15 : D 15 = false := (notYetD hdc (j := 15) rfl rfl hD)
              have d17 : D 17 = false := (notYetD hdc (j := 17) rfl rfl hD)
              have hs0 := hs; rw [d15, d17] at hs0
              exact .inl ⟨rfl, L_ldR (j := 0) (V := .int .u16 (d2[j]!)) j S1_57 (hs0.rd 0 rfl) (da_at (by omega)) rfl g12 (by omega) ⟨hs, f0, f1, f2, f3, f4, f5, f6, f7, f8, f9, f10, f11, f12, fun _ => rfl, f14, f15, f16, f17⟩⟩
            · rintro D ρ wx hD hd hdc hf ⟨hs, f0, f1, f2, f3, f4, f5, f6, f7, f8, f9, f10, f11, f12, f13, f14, f15, f16, f17⟩
              have g0 := f0 (doneD hd 0 rfl)
              have g1 := f1 (doneD hd 1 rfl)
              have d15 : D 15 = false := (notYetD hdc (j := 15) rfl rfl hD)
              have d17 : D 17 = false := (notYetD hdc (j := 17) rfl rfl hD)
              have hs0 := hs; rw [d15, d17] at hs0
              exact .inl ⟨rfl, L_ixR UD_72 S1_57.1 (hs0.rd 0 rfl) g0 g1 (by omega) (by simp only [List.length_map, Array.length_toList, Array.size_setIfInBounds, Go.Sort.size_swp]; omega) ⟨hs, f0, f1, f2, f3, f4, f5, f6, f7, f8, f9, f10, f11, f12, f13, fun _ => rfl, f15, f16, f17⟩⟩
            · rintro D ρ wx hD hd hdc hf ⟨hs, f0, f1, f2, f3, f4, f5, f6, f7, f8, f9, f10, f11, f12, f13, f14, f15, f16, f17⟩
              have g9 := f9 (doneD hd 9 rfl)
              have g14 := f14 (doneD hd 14 rfl)
              have d15 : D 15 = false := hD
              have d17 : D 17 = false := (notYetD hdc (j := 17) rfl rfl hD)
              have hs0 := hs; rw [d15, d17] at hs0
              refine .inl ⟨rfl, L_stA (z := d2[j - 1]!) j S1_57 hs0 0 rfl g14 (by omega) (by first | omega | (simp only [Array.size_setIfInBounds, Go.Sort.size_swp]; omega)) g9 rfl rfl fun _ hs0 => ⟨?_, f0, f1, f2, f3, f4, f5, f6, f7, f8, f9, f10, f11, f12, f13, f14, trivial, f16, f17⟩⟩
              rw [show Go.Vx.mark D 15 17 = false from d17]
              exact hs0
            · rintro D ρ wx hD hd hdc hf ⟨hs, f0, f1, f2, f3, f4, f5, f6, f7, f8, f9, f10, f11, f12, f13, f14, f15, f16, f17⟩
              have g2 := f2 (doneD hd 2 rfl)
              have g4 := f4 (doneD hd 4 rfl)
              have d15 : D 15 = true := doneD hd 15 rfl
              have d17 : D 17 = false := (notYetD hdc (j := 17) rfl rfl hD)
              have hs0 := hs; rw [d15, d17] at hs0
              exact .inl ⟨rfl, L_ixR UD_72 S1_57.1 (hs0.rd 0 rfl) g2 g4 (by omega) (by simp only [List.length_map, Array.length_toList, Array.size_setIfInBounds, Go.Sort.size_swp]; omega) ⟨hs, f0, f1, f2, f3, f4, f5, f6, f7, f8, f9, f10, f11, f12, f13, f14, f15, fun _ => rfl, f17⟩⟩
            · rintro D ρ wx hD hd hdc hf ⟨hs, f0, f1, f2, f3, f4, f5, f6, f7, f8, f9, f10, f11, f12, f13, f14, f15, f16, f17⟩
              have g13 := f13 (doneD hd 13 rfl)
              have g16 := f16 (doneD hd 16 rfl)
              have d15 : D 15 = true := doneD hd 15 rfl
              have d17 : D 17 = false := hD
              have hs0 := hs; rw [d15, d17] at hs0
              refine .inl ⟨rfl, L_stA (z := d2[j]!) (j - 1) S1_57 hs0 0 rfl g16 (by omega) (by first | omega | (simp only [Array.size_setIfInBounds, Go.Sort.size_swp]; omega)) g13 rfl rfl fun _ hs0 => ⟨?_, f0, f1, f2, f3, f4, f5, f6, f7, f8, f9, f10, f11, f12, f13, f14, f15, f16, trivial⟩⟩
              rw [show Go.Vx.mark D 17 15 = true from d15]
              exact hs0
            · rintro ρ1 w1 D hD hf ⟨hs, f0, f1, f2, f3, f4, f5, f6, f7, f8, f9, f10, f11, f12, f13, f14, f15, f16, f17⟩
              rw [hD 15 rfl, hD 17 rfl] at hs
              clear f0 f1 f2 f3 f4 f5 f6 f7 f8 f9 f10 f11 f12 f13 f14 f15 f16 f17
              obtain ⟨ρ2, hρ⟩ : ∃ ρ2, ρ1 = mix [33, 34, 35, 36, 37, 38, 39, 40, 41, 42, 43, 44, 45, 46, 47, 48] ρ2 _ := ⟨ρ1, mix_of (ds := [33, 34, 35, 36, 37, 38, 39, 40, 41, 42, 43, 44, 45, 46, 47, 48]) hf⟩
              clear hf hD
              subst hρ
              refine W_region ?_
              refine RW_op (L_move (V := .int .i64 ((j : Nat) : Int)) rfl ?_)
              refine RW_op (L_sub (a := ((j : Nat) : Int)) (b := 1) (c := ((j - 1 : Nat) : Int)) rfl rfl (nat_i64 (by omega) (by omega)) ?_)
              refine RW_op (L_assign (V := .int .i64 ((j - 1 : Nat) : Int)) rfl ?_)
              refine RW_nil ?_
              refine ⟨_, ?_, _, j - 1, ((d2.setIfInBounds j (d2[j - 1]!)).setIfInBounds (j - 1) (d2[j]!)), upd_of (mix_of (ds := [7, 16, 17, 18, 19, 20, 21, 22, 23, 24, 25, 26, 27, 28, 29, 30, 31, 32, 33, 34, 35, 36, 37, 38, 39, 40, 41, 42, 43, 44, 45, 46, 47, 48]) (by repeat (first | exact Agr.refl _ _ | refine Agr.upd ?_ rfl | refine Agr.mix ?_ rfl))) rfl, (by omega), (by omega), (by simp only [Array.size_setIfInBounds]; exact hz2), (by rw [← hin]; exact (ins_yes c6 c6r).symm), rfl, hs.take 1⟩
              omega
          ·
            refine W_exit ?_
            refine W_region ?_
            refine RW_op (L_move (V := .int .i64 ((k : Nat) : Int)) rfl ?_)
            refine RW_op (L_add (a := ((k : Nat) : Int)) (b := 1) (c := ((k + 1 : Nat) : Int)) rfl rfl (nat_i64 (by omega) (by omega)) ?_)
            refine RW_op (L_assign (V := .int .i64 ((k + 1 : Nat) : Int)) rfl ?_)
            refine RW_nil ?_
            refine ⟨_, ?_, _, k + 1, d2, upd_of (mix_of (ds := [6, 7, 10, 11, 12, 13, 14, 15, 16, 17, 18, 19, 20, 21, 22, 23, 24, 25, 26, 27, 28, 29, 30, 31, 32, 33, 34, 35, 36, 37, 38, 39, 40, 41, 42, 43, 44, 45, 46, 47, 48]) (by repeat (first | exact Agr.refl _ _ | refine Agr.upd ?_ rfl | refine Agr.mix ?_ rfl))) rfl, (by omega), (by omega), hz2, (by rw [← hev, out_yes (d := d1) c2, ← hin, ins_no c6]), rfl, hs.take 1⟩
            omega
    ·
      replace c2 := of_decide_eq_false c2
      refine W_exit ?_
      refine ⟨_, res_none Try.results102, ?_⟩
      have hX : d1 = Sort.insertionSort Sort.ltInt d lo hi := by rw [← hev, out_no c2]
      exact ⟨(), rfl, hX ▸ hs.take 1, hX ▸ (by first | assumption | (simp only [Array.size_setIfInBounds, Go.Sort.size_swp]; omega))⟩
end Ts
end Go.Proofs
namespace Go.Proofs
open Go Go.Vx Go.RowKit
namespace Ts
section
variable {hi first r : Nat} {d : Array Int}
theorem sd_stop (h : ((hi : Nat) : Int) ≤ ((2 * r + 1 : Nat) : Int)) : Sort.siftDown Sort.ltInt hi first r d = d := by rw [Sort.siftDown, dif_pos (by omega)]
theorem sd_2 (h : ¬ ((hi : Nat) : Int) ≤ ((2 * r + 1 : Nat) : Int)) (h1 : (((2 * r + 1) + 1 : Nat) : Int) < ((hi : Nat) : Int)) (h2 : d[first + (2 * r + 1)]! < d[(first + (2 * r + 1)) + 1]!) :
    Sort.siftDown Sort.ltInt hi first r d = if d[first + r]! < d[first + ((2 * r + 1) + 1)]! then Sort.siftDown Sort.ltInt hi first ((2 * r + 1) + 1) (Sort.swp d (first + r) (first + ((2 * r + 1) + 1))) else d := by
  rw [Sort.siftDown, dif_neg (by omega), if_pos (by simp only [Sort.ltInt, h2, decide_true, Bool.and_true, decide_eq_true_eq]; omega)]
  by_cases h3 : d[first + r]! < d[first + (2 * r + 2)]!
  · rw [if_neg (by simp [Sort.ltInt, h3]), dif_pos (by omega)]
    show _ = if d[first + r]! < d[first + (2 * r + 2)]! then Sort.siftDown Sort.ltInt hi first (2 * r + 2) (Sort.swp d (first + r) (first + (2 * r + 2))) else d
    rw [if_pos h3]
  · rw [if_pos (by simp only [Sort.ltInt, Bool.not_eq_true', decide_eq_false_iff_not]; exact h3)]
    show _ = if d[first + r]! < d[first + (2 * r + 2)]! then Sort.siftDown Sort.ltInt hi first (2 * r + 2) (Sort.swp d (first + r) (first + (2 * r + 2))) else d
    rw [if_neg h3]
theorem sd_1 (h : ¬ ((hi : Nat) : Int) ≤ ((2 * r + 1 : Nat) : Int)) (h1 : (decide ((((2 * r + 1) + 1 : Nat) : Int) < ((hi : Nat) : Int)) && decide (d[first + (2 * r + 1)]! < d[(first + (2 * r + 1)) + 1]!)) = false) :
    Sort.siftDown Sort.ltInt hi first r d = if d[first + r]! < d[first + (2 * r + 1)]! then Sort.siftDown Sort.ltInt hi first (2 * r + 1) (Sort.swp d (first + r) (first + (2 * r + 1))) else d := by
  rw [Sort.siftDown, dif_neg (by omega), if_neg]
  · by_cases h3 : d[first + r]! < d[first + (2 * r + 1)]!
    · rw [if_neg (by simp [Sort.ltInt, h3]), if_pos h3]
    · rw [if_pos (by simp only [Sort.ltInt, Bool.not_eq_true', decide_eq_false_iff_not]; exact h3), if_neg h3]
  · intro h2
    rw [Bool.and_eq_true, decide_eq_true_iff] at h2
    rw [Bool.and_eq_false_iff, decide_eq_false_iff_not, decide_eq_false_iff_not] at h1
    rcases h1 with h1 | h1
    · exact h1 (by omega)
    · exact h1 (by simpa [Sort.ltInt] using h2.2)
end
set_option maxRecDepth 20000 in
set_option maxHeartbeats 4000000 in
theorem sift_ok (w : World) (S : Nat → Prop) (a : Option Addr) (N c : Nat) (d : Array Int) (hsz : d.size = N) (hN : N ≤ 2305843009213693951) (lo hi first : Nat) (h1 : lo ≤ N) (h2 : first + hi ≤ N) (hR : (row (.slice a N c) (d.toList.map (ic .u16)) 57 1).holds w S) (hlt : ∀ x, S x → x < w.heap.size) : Calls Try.prog 116 #[.slice a N c, .int .i64 ((lo : Nat) : Int), .int .i64 ((hi : Nat) : Int), .int .i64 ((first : Nat) : Int)] w (fun e w' => ∃ x : Unit, e = .returned (.tuple #[]) ∧ Own w S w' [row (.slice a N c) ((Sort.siftDown Sort.ltInt hi first lo d).toList.map (ic .u16)) 57 1] ∧ (Sort.siftDown Sort.ltInt hi first lo d).size = N) := by
  refine calls_of_Wn (n := 76) Try.func116 rfl Try.ntmps116 rfl ?_
  have hs := Own.lent hR hlt
  refine W_seq ?_
  refine W_region ?_
  refine RW_op (L_move (V := .int .i64 ((lo : Nat) : Int)) rfl ?_)
  refine RW_op (L_assign (V := .int .i64 ((lo : Nat) : Int)) rfl ?_)
  refine RW_nil ?_
  refine W_block ?_
  refine W_loopI (fun ρ m ρ' w' => ∃ (ρo : Env) (r : Nat) (d1 : Array Int), ρ' = upd (mix [8, 9, 11, 12, 13, 14, 15, 16, 17, 18, 19, 20, 21, 22, 23, 24, 25, 26, 27, 28, 29, 30, 31, 32, 33, 34, 35, 36, 37, 38, 39, 40, 41, 42, 43, 44, 45, 46, 47, 48, 49, 50, 51, 52, 53, 54, 55, 56, 57, 58, 59, 60, 61, 62, 63, 64, 65, 66, 67, 68, 69, 70, 71, 72, 73, 74, 75] ρo ρ) 8 (.int .i64 ((r : Nat) : Int)) ∧ (r ≤ N) ∧ (d1.size = N) ∧ (Sort.siftDown Sort.ltInt hi first r d1 = Sort.siftDown Sort.ltInt hi first lo d) ∧ m = hi - r ∧ Own w S w' [row (.slice a N c) (d1.toList.map (ic .u16)) 57 1]) ?_ ?_
  · exact ⟨_, _, lo, d, upd_of (mix_of (ds := [8, 9, 11, 12, 13, 14, 15, 16, 17, 18, 19, 20, 21, 22, 23, 24, 25, 26, 27, 28, 29, 30, 31, 32, 33, 34, 35, 36, 37, 38, 39, 40, 41, 42, 43, 44, 45, 46, 47, 48, 49, 50, 51, 52, 53, 54, 55, 56, 57, 58, 59, 60, 61, 62, 63, 64, 65, 66, 67, 68, 69, 70, 71, 72, 73, 74, 75]) (Agr.refl _ _)) rfl, (by omega), hsz, rfl, rfl, hs⟩
  · rintro m ρ' w1 ⟨ρo, r, d1, rfl, hr0, hz1, hev, rfl, hs⟩
    refine W_block ?_
    refine W_seq ?_
    refine W_region ?_
    refine RW_op (L_move (V := .int .i64 ((r : Nat) : Int)) rfl ?_)
    refine RW_op (L_mul (a := 2) (b := ((r : Nat) : Int)) (c := ((2 * r : Nat) : Int)) rfl rfl (nat_i64 (by omega) (by omega)) ?_)
    refine RW_op (L_add (a := ((2 * r : Nat) : Int)) (b := 1) (c := (((2 * r) + 1 : Nat) : Int)) rfl rfl (nat_i64 (by omega) (by omega)) ?_)
    refine RW_op (L_assign (V := .int .i64 (((2 * r) + 1 : Nat) : Int)) rfl ?_)
    refine RW_nil ?_
    refine W_seq ?_
    refine W_seq ?_
    refine W_region ?_
    refine RW_op (L_move (V := .int .i64 (((2 * r) + 1 : Nat) : Int)) rfl ?_)
    refine RW_op (L_move (V := .int .i64 ((hi : Nat) : Int)) rfl ?_)
    refine RW_op (L_geq rfl rfl ?_)
    refine RW_nil ?_
    refine W_cond (t := decide (((hi : Nat) : Int) ≤ (((2 * r) + 1 : Nat) : Int))) rfl (fun c2 => ?_) (fun c2 => ?_)
    ·
      replace c2 := of_decide_eq_true c2
      refine W_exit ?_
      refine ⟨_, res_none Try.results116, ?_⟩
      have hX : d1 = Sort.siftDown Sort.ltInt hi first lo d := by rw [← hev, sd_stop c2]
      exact ⟨(), rfl, hX ▸ hs.take 1, hX ▸ (by first | assumption | (simp only [Array.size_setIfInBounds, Go.Sort.size_swp]; omega))⟩
    ·
      replace c2 := of_decide_eq_false c2
      refine W_skip ?_
      refine W_seq ?_
      refine W_seq ?_
      replace hs := hs.drew
      refine W_draw2 HM [17, 18, 19, 20, 21, 22, 23, 24, 25, 26, 27, 28, 29, 30, 31, 32, 33, 34, 35, 36] [[], [0], [], [1, 2], [3], [4], [4], [4], [6, 7, 4], [5, 8, 4], [9, 4], [4], [4], [4], [12, 13, 4], [14, 4], [11, 15, 4], [16, 4], [10, 17, 4, 4], [4, 18]] (fun D ρ wx => Own w S wx [row (.slice a N c) (d1.toList.map (ic .u16)) 57 1] ∧ (D 0 = true → ρ 17 = .int .i64 (((2 * r) + 1 : Nat) : Int)) ∧ (D 1 = true → ρ 18 = .int .i64 ((((2 * r) + 1) + 1 : Nat) : Int)) ∧ (D 2 = true → ρ 19 = .int .i64 ((hi : Nat) : Int)) ∧ (D 3 = true → ρ 20 = .bool (decide (((((2 * r) + 1) + 1 : Nat) : Int) < ((hi : Nat) : Int)))) ∧ (D 4 = true → ρ 21 = .bool (decide (((((2 * r) + 1) + 1 : Nat) : Int) < ((hi : Nat) : Int)))) ∧ (D 5 = true → ρ 22 = cond ((decide (((((2 * r) + 1) + 1 : Nat) : Int) < ((hi : Nat) : Int))) == true) (.slice a N c) undef) ∧ (D 6 = true → ρ 23 = cond ((decide (((((2 * r) + 1) + 1 : Nat) : Int) < ((hi : Nat) : Int))) == true) (.int .i64 ((first : Nat) : Int)) undef) ∧ (D 7 = true → ρ 24 = cond ((decide (((((2 * r) + 1) + 1 : Nat) : Int) < ((hi : Nat) : Int))) == true) (.int .i64 (((2 * r) + 1 : Nat) : Int)) undef) ∧ (D 8 = true → ρ 25 = cond ((decide (((((2 * r) + 1) + 1 : Nat) : Int) < ((hi : Nat) : Int))) == true) (.int .i64 ((first + ((2 * r) + 1) : Nat) : Int)) undef) ∧ (D 9 = true → ρ 26 = cond ((decide (((((2 * r) + 1) + 1 : Nat) : Int) < ((hi : Nat) : Int))) == true) (.pointer (some ⟨bkS (.slice a N c), ofS (.slice a N c) + ((first + ((2 * r) + 1) : Nat) : Int).toNat * 1, none⟩)) undef) ∧ (D 10 = true → ρ 27 = cond ((decide (((((2 * r) + 1) + 1 : Nat) : Int) < ((hi : Nat) : Int))) == true) (.int .u16 (d1[first + ((2 * r) + 1)]!)) undef) ∧ (D 11 = true → ρ 28 = cond ((decide (((((2 * r) + 1) + 1 : Nat) : Int) < ((hi : Nat) : Int))) == true) (.slice a N c) undef) ∧ (D 12 = true → ρ 29 = cond ((decide (((((2 * r) + 1) + 1 : Nat) : Int) < ((hi : Nat) : Int))) == true) (.int .i64 ((first : Nat) : Int)) undef) ∧ (D 13 = true → ρ 30 = cond ((decide (((((2 * r) + 1) + 1 : Nat) : Int) < ((hi : Nat) : Int))) == true) (.int .i64 (((2 * r) + 1 : Nat) : Int)) undef) ∧ (D 14 = true → ρ 31 = cond ((decide (((((2 * r) + 1) + 1 : Nat) : Int) < ((hi : Nat) : Int))) == true) (.int .i64 ((first + ((2 * r) + 1) : Nat) : Int)) undef) ∧ (D 15 = true → ρ 32 = cond ((decide (((((2 * r) + 1) + 1 : Nat) : Int) < ((hi : Nat) : Int))) == true) (.int .i64 (((first + ((2 * r) + 1)) + 1 : Nat) : Int)) undef) ∧ (D 16 = true → ρ 33 = cond ((decide (((((2 * r) + 1) + 1 : Nat) : Int) < ((hi : Nat) : Int))) == true) (.pointer (some ⟨bkS (.slice a N c), ofS (.slice a N c) + (((first + ((2 * r) + 1)) + 1 : Nat) : Int).toNat * 1, none⟩)) undef) ∧ (D 17 = true → ρ 34 = cond ((decide (((((2 * r) + 1) + 1 : Nat) : Int) < ((hi : Nat) : Int))) == true) (.int .u16 (d1[(first + ((2 * r) + 1)) + 1]!)) undef) ∧ (D 18 = true → ρ 35 = cond ((decide (((((2 * r) + 1) + 1 : Nat) : Int) < ((hi : Nat) : Int))) == true) (.bool (decide (d1[first + ((2 * r) + 1)]! < d1[(first + ((2 * r) + 1)) + 1]!))) undef) ∧ (D 19 = true → ρ 36 = .bool ((decide (((((2 * r) + 1) + 1 : Nat) : Int) < ((hi : Nat) : Int))) && (decide (d1[first + ((2 * r) + 1)]! < d1[(first + ((2 * r) + 1)) + 1]!))))) rfl rfl rfl ⟨hs, fun h => absurd h Bool.false_ne_true, fun h => absurd h Bool.false_ne_true, fun h => absurd h Bool.false_ne_true, fun h => absurd h Bool.false_ne_true, fun h => absurd h Bool.false_ne_true, fun h => absurd h Bool.false_ne_true, fun h => absurd h Bool.false_ne_true, fun h => absurd h Bool.false_ne_true, fun h => absurd h Bool.false_ne_true, fun h => absurd h Bool.false_ne_true, fun h => absurd h Bool.false_ne_true, fun h => absurd h Bool.false_ne_true, fun h => absurd h Bool.false_ne_true, fun h => absurd h Bool.false_ne_true, fun h => absurd h Bool.false_ne_true, fun h => absurd h Bool.false_ne_true, fun h => absurd h Bool.false_ne_true, fun h => absurd h Bool.false_ne_true, fun h => absurd h Bool.false_ne_true, fun h => absurd h Bool.false_ne_true⟩ ⟨?_, ?_, ?_, ?_, ?_, ?_, ?_, ?_, ?_, ?_, ?_, ?_, ?_, ?_, ?_, ?_, ?_, ?_, ?_, ?_, trivial⟩ ?_
      · rintro D ρ wx hD hd hdc hf ⟨hs, f0, f1, f2, f3, f4, f5, f6, f7, f8, f9, f10, f11, f12, f13, f14, f15, f16, f17, f18, f19⟩
        have r9 : ρ 9 = .int .i64 (((2 * r) + 1 : Nat) : Int) := outD hf 9 rfl
        exact .inl ⟨rfl, L_move (V := .int .i64 (((2 * r) + 1 : Nat) : Int)) r9 ⟨hs, fun _ => rfl, f1, f2, f3, f4, f5, f6, f7, f8, f9, f10, f11, f12, f13, f14, f15, f16, f17, f18, f19⟩⟩
      · rintro D ρ wx hD hd hdc hf ⟨hs, f0, f1, f2, f3, f4, f5, f6, f7, f8, f9, f10, f11, f12, f13, f14, f15, f16, f17, f18, f19⟩
        have g0 := f0 (doneD hd 0 rfl)
        exact .inl ⟨rfl, L_add (a := (((2 * r) + 1 : Nat) : Int)) (b := 1) (c := ((((2 * r) + 1) + 1 : Nat) : Int)) g0 rfl (nat_i64 (by omega) (by omega)) ⟨hs, f0, fun _ => rfl, f2, f3, f4, f5, f6, f7, f8, f9, f10, f11, f12, f13, f14, f15, f16, f17, f18, f19⟩⟩
      · rintro D ρ wx hD hd hdc hf ⟨hs, f0, f1, f2, f3, f4, f5, f6, f7, f8, f9, f10, f11, f12, f13, f14, f15, f16, f17, f18, f19⟩
        have r2 : ρ 2 = .int .i64 ((hi : Nat) : Int) := outD hf 2 rfl
        exact .inl ⟨rfl, L_move (V := .int .i64 ((hi : Nat) : Int)) r2 ⟨hs, f0, f1, fun _ => rfl, f3, f4, f5, f6, f7, f8, f9, f10, f11, f12, f13, f14, f15, f16, f17, f18, f19⟩⟩
      · rintro D ρ wx hD hd hdc hf ⟨hs, f0, f1, f2, f3, f4, f5, f6, f7, f8, f9, f10, f11, f12, f13, f14, f15, f16, f17, f18, f19⟩
        have g1 := f1 (doneD hd 1 rfl)
        have g2 := f2 (doneD hd 2 rfl)
        exact .inl ⟨rfl, L_lss g1 g2 ⟨hs, f0, f1, f2, fun _ => rfl, f4, f5, f6, f7, f8, f9, f10, f11, f12, f13, f14, f15, f16, f17, f18, f19⟩⟩
      · rintro D ρ wx hD hd hdc hf ⟨hs, f0, f1, f2, f3, f4, f5, f6, f7, f8, f9, f10, f11, f12, f13, f14, f15, f16, f17, f18, f19⟩
        have g3 := f3 (doneD hd 3 rfl)
        exact .inl ⟨rfl, L_move (V := .bool (decide (((((2 * r) + 1) + 1 : Nat) : Int) < ((hi : Nat) : Int)))) g3 ⟨hs, f0, f1, f2, f3, fun _ => rfl, f5, f6, f7, f8, f9, f10, f11, f12, f13, f14, f15, f16, f17, f18, f19⟩⟩
      · rintro D ρ wx hD hd hdc hf ⟨hs, f0, f1, f2, f3, f4, f5, f6, f7, f8, f9, f10, f11, f12, f13, f14, f15, f16, f17, f18, f19⟩
        have r0 : ρ 0 = .slice a N c := outD hf 0 rfl
        rcases Bool.eq_false_or_eq_true ((decide (((((2 * r) + 1) + 1 : Nat) : Int) < ((hi : Nat) : Int))) == true) with hG | hG
        rotate_left
        · exact .inr ⟨(Eq.trans (wantG1 (j := 4) rfl (f4 (doneD hd 4 rfl))) hG), ⟨hs, f0, f1, f2, f3, f4, fun _ => (condF hG).symm, f6, f7, f8, f9, f10, f11, f12, f13, f14, f15, f16, f17, f18, f19⟩⟩
        ·
          have hgd := of_decide_eq_true (eq_of_beq hG)
          exact .inl ⟨(Eq.trans (wantG1 (j := 4) rfl (f4 (doneD hd 4 rfl))) hG), L_move (V := .slice a N c) r0 ⟨hs, f0, f1, f2, f3, f4, fun _ => (condT hG).symm, f6, f7, f8, f9, f10, f11, f12, f13, f14, f15, f16, f17, f18, f19⟩⟩
      · rintro D ρ wx hD hd hdc hf ⟨hs, f0, f1, f2, f3, f4, f5, f6, f7, f8, f9, f10, f11, f12, f13, f14, f15, f16, f17, f18, f19⟩
        have r3 : ρ 3 = .int .i64 ((first : Nat) : Int) := outD hf 3 rfl
        rcases Bool.eq_false_or_eq_true ((decide (((((2 * r) + 1) + 1 : Nat) : Int) < ((hi : Nat) : Int))) == true) with hG | hG
        rotate_left
        · exact .inr ⟨(Eq.trans (wantG1 (j := 4) rfl (f4 (doneD hd 4 rfl))) hG), ⟨hs, f0, f1, f2, f3, f4, f5, fun _ => (condF hG).symm, f7, f8, f9, f10, f11, f12, f13, f14, f15, f16, f17, f18, f19⟩⟩
        ·
          have hgd := of_decide_eq_true (eq_of_beq hG)
          exact .inl ⟨(Eq.trans (wantG1 (j := 4) rfl (f4 (doneD hd 4 rfl))) hG), L_move (V := .int .i64 ((first : Nat) : Int)) r3 ⟨hs, f0, f1, f2, f3, f4, f5, fun _ => (condT hG).symm, f7, f8, f9, f10, f11, f12, f13, f14, f15, f16, f17, f18, f19⟩⟩
      · rintro D ρ wx hD hd hdc hf ⟨hs, f0, f1, f2, f3, f4, f5, f6, f7, f8, f9, f10, f11, f12, f13, f14, f15, f16, f17, f18, f19⟩
        have r9 : ρ 9 = .int .i64 (((2 * r) + 1 : Nat) : Int) := outD hf 9 rfl
        rcases Bool.eq_false_or_eq_true ((decide (((((2 * r) + 1) + 1 : Nat) : Int) < ((hi : Nat) : Int))) == true) with hG | hG
        rotate_left
        · exact .inr ⟨(Eq.trans (wantG1 (j := 4) rfl (f4 (doneD hd 4 rfl))) hG), ⟨hs, f0, f1, f2, f3, f4, f5, f6, fun _ => (condF hG).symm, f8, f9, f10, f11, f12, f13, f14, f15, f16, f17, f18, f19⟩⟩
        ·
          have hgd := of_decide_eq_true (eq_of_beq hG)
          exact .inl ⟨(Eq.trans (wantG1 (j := 4) rfl (f4 (doneD hd 4 rfl))) hG), L_move (V := .int .i64 (((2 * r) + 1 : Nat) : Int)) r9 ⟨hs, f0, f1, f2, f3, f4, f5, f6, fun _ => (condT hG).symm, f8, f9, f10, f11, f12, f13, f14, f15, f16, f17, f18, f19⟩⟩
      · rintro D ρ wx hD hd hdc hf ⟨hs, f0, f1, f2, f3, f4, f5, f6, f7, f8, f9, f10, f11, f12, f13, f14, f15, f16, f17, f18, f19⟩
        have g6 := f6 (doneD hd 6 rfl)
        have g7 := f7 (doneD hd 7 rfl)
        rcases Bool.eq_false_or_eq_true ((decide (((((2 * r) + 1) + 1 : Nat) : Int) < ((hi : Nat) : Int))) == true) with hG | hG
        rotate_left
        · exact .inr ⟨(Eq.trans (wantG1 (j := 4) rfl (f4 (doneD hd 4 rfl))) hG), ⟨hs, f0, f1, f2, f3, f4, f5, f6, f7, fun _ => (condF hG).symm, f9, f10, f11, f12, f13, f14, f15, f16, f17, f18, f19⟩⟩
        ·
          have hgd := of_decide_eq_true (eq_of_beq hG)
          exact .inl ⟨(Eq.trans (wantG1 (j := 4) rfl (f4 (doneD hd 4 rfl))) hG), L_add (a := ((first : Nat) : Int)) (b := (((2 * r) + 1 : Nat) : Int)) (c := ((first + ((2 * r) + 1) : Nat) : Int)) ((g6).trans (condT (by exact hG))) ((g7).trans (condT (by exact hG))) (nat_i64 (by omega) (by omega)) ⟨hs, f0, f1, f2, f3, f4, f5, f6, f7, fun _ => (condT hG).symm, f9, f10, f11, f12, f13, f14, f15, f16, f17, f18, f19⟩⟩
      · rintro D ρ wx hD hd hdc hf ⟨hs, f0, f1, f2, f3, f4, f5, f6, f7, f8, f9, f10, f11, f12, f13, f14, f15, f16, f17, f18, f19⟩
        have g5 := f5 (doneD hd 5 rfl)
        have g8 := f8 (doneD hd 8 rfl)
        rcases Bool.eq_false_or_eq_true ((decide (((((2 * r) + 1) + 1 : Nat) : Int) < ((hi : Nat) : Int))) == true) with hG | hG
        rotate_left
        · exact .inr ⟨(Eq.trans (wantG1 (j := 4) rfl (f4 (doneD hd 4 rfl))) hG), ⟨hs, f0, f1, f2, f3, f4, f5, f6, f7, f8, fun _ => (condF hG).symm, f10, f11, f12, f13, f14, f15, f16, f17, f18, f19⟩⟩
        ·
          have hgd := of_decide_eq_true (eq_of_beq hG)
          exact .inl ⟨(Eq.trans (wantG1 (j := 4) rfl (f4 (doneD hd 4 rfl))) hG), L_ixR UD_72 S1_57.1 (hs.rd 0 rfl) ((g5).trans (condT (by exact hG))) ((g8).trans (condT (by exact hG))) (by omega) (by simp only [List.length_map, Array.length_toList, Array.size_setIfInBounds, Go.Sort.size_swp]; omega) ⟨hs, f0, f1, f2, f3, f4, f5, f6, f7, f8, fun _ => (condT hG).symm, f10, f11, f12, f13, f14, f15, f16, f17, f18, f19⟩⟩
      · rintro D ρ wx hD hd hdc hf ⟨hs, f0, f1, f2, f3, f4, f5, f6, f7, f8, f9, f10, f11, f12, f13, f14, f15, f16, f17, f18, f19⟩
        have g9 := f9 (doneD hd 9 rfl)
        rcases Bool.eq_false_or_eq_true ((decide (((((2 * r) + 1) + 1 : Nat) : Int) < ((hi : Nat) : Int))) == true) with hG | hG
        rotate_left
        · exact .inr ⟨(Eq.trans (wantG1 (j := 4) rfl (f4 (doneD hd 4 rfl))) hG), ⟨hs, f0, f1, f2, f3, f4, f5, f6, f7, f8, f9, fun _ => (condF hG).symm, f11, f12, f13, f14, f15, f16, f17, f18, f19⟩⟩
        ·
          have hgd := of_decide_eq_true (eq_of_beq hG)
          exact .inl ⟨(Eq.trans (wantG1 (j := 4) rfl (f4 (doneD hd 4 rfl))) hG), L_ldR (j := 0) (V := .int .u16 (d1[first + ((2 * r) + 1)]!)) (first + ((2 * r) + 1)) S1_57 (hs.rd 0 rfl) (da_at (by omega)) rfl ((g9).trans (condT (by exact hG))) (by omega) ⟨hs, f0, f1, f2, f3, f4, f5, f6, f7, f8, f9, fun _ => (condT hG).symm, f11, f12, f13, f14, f15, f16, f17, f18, f19⟩⟩
      · rintro D ρ wx hD hd hdc hf ⟨hs, f0, f1, f2, f3, f4, f5, f6, f7, f8, f9, f10, f11, f12, f13, f14, f15, f16, f17, f18, f19⟩
        have r0 : ρ 0 = .slice a N c := outD hf 0 rfl
        rcases Bool.eq_false_or_eq_true ((decide (((((2 * r) + 1) + 1 : Nat) : Int) < ((hi : Nat) : Int))) == true) with hG | hG
        rotate_left
        · exact .inr ⟨(Eq.trans (wantG1 (j := 4) rfl (f4 (doneD hd 4 rfl))) hG), ⟨hs, f0, f1, f2, f3, f4, f5, f6, f7, f8, f9, f10, fun _ => (condF hG).symm, f12, f13, f14, f15, f16, f17, f18, f19⟩⟩
        ·
          have hgd := of_decide_eq_true (eq_of_beq hG)
          exact .inl ⟨(Eq.trans (wantG1 (j := 4) rfl (f4 (doneD hd 4 rfl))) hG), L_move (V := .slice a N c) r0 ⟨hs, f0, f1, f2, f3, f4, f5, f6, f7, f8, f9, f10, fun _ => (condT hG).symm, f12, f13, f14, f15, f16, f17, f18, f19⟩⟩
      · rintro D ρ wx hD hd hdc hf ⟨hs, f0, f1, f2, f3, f4, f5, f6, f7, f8, f9, f10, f11, f12, f13, f14, f15, f16, f17, f18, f19⟩
        have r3 : ρ 3 = .int .i64 ((first : Nat) : Int) := outD hf 3 rfl
        rcases Bool.eq_false_or_eq_true ((decide (((((2 * r) + 1) + 1 : Nat) : Int) < ((hi : Nat) : Int))) == true) with hG | hG
        rotate_left
        · exact .inr ⟨(Eq.trans (wantG1 (j := 4) rfl (f4 (doneD hd 4 rfl))) hG), ⟨hs, f0, f1, f2, f3, f4, f5, f6, f7, f8, f9, f10, f11, fun _ => (condF hG).symm, f13, f14, f15, f16, f17, f18, f19⟩⟩
        ·
          have hgd := of_decide_eq_true (eq_of_beq hG)
          exact .inl ⟨(Eq.trans (wantG1 (j := 4) rfl (f4 (doneD hd 4 rfl))) hG), L_move (V := .int .i64 ((first : Nat) : Int)) r3 ⟨hs, f0, f1, f2, f3, f4, f5, f6, f7, f8, f9, f10, f11, fun _ => (condT hG).symm, f13, f14, f15, f16, f17, f18, f19⟩⟩
      · rintro D ρ wx hD hd hdc hf ⟨hs, f0, f1, f2, f3, f4, f5, f6, f7, f8, f9, f10, f11, f12, f13, f14, f15, f16, f17, f18, f19⟩
        have r9 : ρ 9 = .int .i64 (((2 * r) + 1 : Nat) : Int) := outD hf 9 rfl
        rcases Bool.eq_false_or_eq_true ((decide (((((2 * r) + 1) + 1 : Nat) : Int) < ((hi : Nat) : Int))) == true) with hG | hG
        rotate_left
        · exact .inr ⟨(Eq.trans (wantG1 (j := 4) rfl (f4 (doneD hd 4 rfl))) hG), ⟨hs, f0, f1, f2, f3, f4, f5, f6, f7, f8, f9, f10, f11, f12, fun _ => (condF hG).symm, f14, f15, f16, f17, f18, f19⟩⟩
        ·
          have hgd := of_decide_eq_true (eq_of_beq hG)
          exact .inl ⟨(Eq.trans (wantG1 (j := 4) rfl (f4 (doneD hd 4 rfl))) hG), L_move (V := .int .i64 (((2 * r) + 1 : Nat) : Int)) r9 ⟨hs, f0, f1, f2, f3, f4, f5, f6, f7, f8, f9, f10, f11, f12, fun _ => (condT hG).symm, f14, f15, f16, f17, f18, f19⟩⟩
      · rintro D ρ wx hD hd hdc hf ⟨hs, f0, f1, f2, f3, f4, f5, f6, f7, f8, f9, f10, f11, f12, f13, f14, f15, f16, f17, f18, f19⟩
        have g12 := f12 (doneD hd 12 rfl)
        have g13 := f13 (doneD hd 13 rfl)
        rcases Bool.eq_false_or_eq_true ((decide (((((2 * r) + 1) + 1 : Nat) : Int) < ((hi : Nat) : Int))) == true) with hG | hG
        rotate_left
        · exact .inr ⟨(Eq.trans (wantG1 (j := 4) rfl (f4 (doneD hd 4 rfl))) hG), ⟨hs, f0, f1, f2, f3, f4, f5, f6, f7, f8, f9, f10, f11, f12, f13, fun _ => (condF hG).symm, f15, f16, f17, f18, f19⟩⟩
        ·
          have hgd := of_decide_eq_true (eq_of_beq hG)
          exact .inl ⟨(Eq.trans (wantG1 (j := 4) rfl (f4 (doneD hd 4 rfl))) hG), L_add (a := ((first : Nat) : Int)) (b := (((2 * r) + 1 : Nat) : Int)) (c := ((first + ((2 * r) + 1) : Nat) : Int)) ((g12).trans (condT (by exact hG))) ((g13).trans (condT (by exact hG))) (nat_i64 (by omega) (by omega)) ⟨hs, f0, f1, f2, f3, f4, f5, f6, f7, f8, f9, f10, f11, f12, f13, fun _ => (condT hG).symm, f15, f16, f17, f18, f19⟩⟩
      · rintro D ρ wx hD hd hdc hf ⟨hs, f0, f1, f2, f3, f4, f5, f6, f7, f8, f9, f10, f11, f12, f13, f14, f15, f16, f17, f18, f19⟩
        have g14 := f14 (doneD hd 14 rfl)
        rcases Bool.eq_false_or_eq_true ((decide (((((2 * r) + 1) + 1 : Nat) : Int) < ((hi : Nat) : Int))) == true) with hG | hG
        rotate_left
        · exact .inr ⟨(Eq.trans (wantG1 (j := 4) rfl (f4 (doneD hd 4 rfl))) hG), ⟨hs, f0, f1, f2, f3, f4, f5, f6, f7, f8, f9, f10, f11, f12, f13, f14, fun _ => (condF hG).symm, f16, f17, f18, f19⟩⟩
        ·
          have hgd := of_decide_eq_true (eq_of_beq hG)
          exact .inl ⟨(Eq.trans (wantG1 (j := 4) rfl (f4 (doneD hd 4 rfl))) hG), L_add (a := ((first + ((2 * r) + 1) : Nat) : Int)) (b := 1) (c := (((first + ((2 * r) + 1)) + 1 : Nat) : Int)) ((g14).trans (condT (by exact hG))) rfl (nat_i64 (by omega) (by omega)) ⟨hs, f0, f1, f2, f3, f4, f5, f6, f7, f8, f9, f10, f11, f12, f13, f14, fun _ => (condT hG).symm, f16, f17, f18, f19⟩⟩
      · rintro D ρ wx hD hd hdc hf ⟨hs, f0, f1, f2, f3, f4, f5, f6, f7, f8, f9, f10, f11, f12, f13, f14, f15, f16, f17, f18, f19⟩
        have g11 := f11 (doneD hd 11 rfl)
        have g15 := f15 (doneD hd 15 rfl)
        rcases Bool.eq_false_or_eq_true ((decide (((((2 * r) + 1) + 1 : Nat) : Int) < ((hi : Nat) : Int))) == true) with hG | hG
        rotate_left
        · exact .inr ⟨(Eq.trans (wantG1 (j := 4) rfl (f4 (doneD hd 4 rfl))) hG), ⟨hs, f0, f1, f2, f3, f4, f5, f6, f7, f8, f9, f10, f11, f12, f13, f14, f15, fun _ => (condF hG).symm, f17, f18, f19⟩⟩
        ·
          have hgd := of_decide_eq_true (eq_of_beq hG)
          exact .inl ⟨(Eq.trans (wantG1 (j := 4) rfl (f4 (doneD hd 4 rfl))) hG), L_ixR UD_72 S1_57.1 (hs.rd 0 rfl) ((g11).trans (condT (by exact hG))) ((g15).trans (condT (by exact hG))) (by omega) (by simp only [List.length_map, Array.length_toList, Array.size_setIfInBounds, Go.Sort.size_swp]; omega) ⟨hs, f0, f1, f2, f3, f4, f5, f6, f7, f8, f9, f10, f11, f12, f13, f14, f15, fun _ => (condT hG).symm, f17, f18, f19⟩⟩
      · rintro D ρ wx hD hd hdc hf ⟨hs, f0, f1, f2, f3, f4, f5, f6, f7, f8, f9, f10, f11, f12, f13, f14, f15, f16, f17, f18, f19⟩
        have g16 := f16 (doneD hd 16 rfl)
        rcases Bool.eq_false_or_eq_true ((decide (((((2 * r) + 1) + 1 : Nat) : Int) < ((hi : Nat) : Int))) == true) with hG | hG
        rotate_left
        · exact .inr ⟨(Eq.trans (wantG1 (j := 4) rfl (f4 (doneD hd 4 rfl))) hG), ⟨hs, f0, f1, f2, f3, f4, f5, f6, f7, f8, f9, f10, f11, f12, f13, f14, f15, f16, fun _ => (condF hG).symm, f18, f19⟩⟩
        ·
          have hgd := of_decide_eq_true (eq_of_beq hG)
          exact .inl ⟨(Eq.trans (wantG1 (j := 4) rfl (f4 (doneD hd 4 rfl))) hG), L_ldR (j := 0) (V := .int .u16 (d1[(first + ((2 * r) + 1)) + 1]!)) ((first + ((2 * r) + 1)) + 1) S1_57 (hs.rd 0 rfl) (da_at (by omega)) rfl ((g16).trans (condT (by exact hG))) (by omega) ⟨hs, f0, f1, f2, f3, f4, f5, f6, f7, f8, f9, f10, f11, f12, f13, f14, f15, f16, fun _ => (condT hG).symm, f18, f19⟩⟩
      · rintro D ρ wx hD hd hdc hf ⟨hs, f0, f1, f2, f3, f4, f5, f6, f7, f8, f9, f10, f11, f12, f13, f14, f15, f16, f17, f18, f19⟩
        have g10 := f10 (doneD hd 10 rfl)
        have g17 := f17 (doneD hd 17 rfl)
        rcases Bool.eq_false_or_eq_true ((decide (((((2 * r) + 1) + 1 : Nat) : Int) < ((hi : Nat) : Int))) == true) with hG | hG
        rotate_left
        · exact .inr ⟨(Eq.trans (wantG1 (j := 4) rfl (f4 (doneD hd 4 rfl))) hG), ⟨hs, f0, f1, f2, f3, f4, f5, f6, f7, f8, f9, f10, f11, f12, f13, f14, f15, f16, f17, fun _ => (condF hG).symm, f19⟩⟩
        ·
          have hgd := of_decide_eq_true (eq_of_beq hG)
          exact .inl ⟨(Eq.trans (wantG1 (j := 4) rfl (f4 (doneD hd 4 rfl))) hG), L_callP (vs := [.int .u16 (d1[first + ((2 * r) + 1)]!), .int .u16 (d1[(first + ((2 * r) + 1)) + 1]!)]) (V := .bool (decide (d1[first + ((2 * r) + 1)]! < d1[(first + ((2 * r) + 1)) + 1]!))) EN_108 rfl (mapc ((g10).trans (condT (by exact hG))) (mapc ((g17).trans (condT (by exact hG))) rfl)) (less_ok _ (d1[first + ((2 * r) + 1)]!) (d1[(first + ((2 * r) + 1)) + 1]!)) hs fun _ hs0 => ⟨hs0, f0, f1, f2, f3, f4, f5, f6, f7, f8, f9, f10, f11, f12, f13, f14, f15, f16, f17, fun _ => (condT hG).symm, f19⟩⟩
      · rintro D ρ wx hD hd hdc hf ⟨hs, f0, f1, f2, f3, f4, f5, f6, f7, f8, f9, f10, f11, f12, f13, f14, f15, f16, f17, f18, f19⟩
        have g4 := f4 (doneD hd 4 rfl)
        have g18 := f18 (doneD hd 18 rfl)
        exact .inl ⟨rfl, L_and g4 rfl (fun hg => ((g18).trans (condT (by first | exact beqT hg | rfl)))) ⟨hs, f0, f1, f2, f3, f4, f5, f6, f7, f8, f9, f10, f11, f12, f13, f14, f15, f16, f17, f18, fun _ => rfl⟩⟩
      · rintro ρ1 w1 D hD hf ⟨hs, f0, f1, f2, f3, f4, f5, f6, f7, f8, f9, f10, f11, f12, f13, f14, f15, f16, f17, f18, f19⟩
        have e19 := f19 (hD 19 rfl)
        clear f0 f1 f2 f3 f4 f5 f6 f7 f8 f9 f10 f11 f12 f13 f14 f15 f16 f17 f18 f19
        obtain ⟨ρ2, hρ⟩ : ∃ ρ2, ρ1 = upd (mix [17, 18, 19, 20, 21, 22, 23, 24, 25, 26, 27, 28, 29, 30, 31, 32, 33, 34, 35, 36] ρ2 _) 36 (.bool ((decide (((((2 * r) + 1) + 1 : Nat) : Int) < ((hi : Nat) : Int))) && (decide (d1[first + ((2 * r) + 1)]! < d1[(first + ((2 * r) + 1)) + 1]!)))) := ⟨ρ1, upd_of (mix_of (ds := [17, 18, 19, 20, 21, 22, 23, 24, 25, 26, 27, 28, 29, 30, 31, 32, 33, 34, 35, 36]) hf) e19⟩
        clear hf hD e19
        subst hρ
        refine W_cond (t := (decide (((((2 * r) + 1) + 1 : Nat) : Int) < ((hi : Nat) : Int))) && (decide (d1[first + ((2 * r) + 1)]! < d1[(first + ((2 * r) + 1)) + 1]!))) rfl (fun c5 => ?_) (fun c5 => ?_)
        ·
          have c5r := and_r c5
          replace c5 := and_l c5
          replace c5 := of_decide_eq_true c5
          replace c5r := of_decide_eq_true c5r
          refine W_region ?_
          refine RW_op (L_move (V := .int .i64 (((2 * r) + 1 : Nat) : Int)) rfl ?_)
          refine RW_op (L_add (a := (((2 * r) + 1 : Nat) : Int)) (b := 1) (c := ((((2 * r) + 1) + 1 : Nat) : Int)) rfl rfl (nat_i64 (by omega) (by omega)) ?_)
          refine RW_op (L_assign (V := .int .i64 ((((2 * r) + 1) + 1 : Nat) : Int)) rfl ?_)
          refine RW_nil ?_
          refine W_seq ?_
          refine W_seq ?_
          replace hs := hs.drew
          refine W_draw2 HM [39, 40, 41, 42, 43, 44, 45, 46, 47, 48, 49, 50, 51, 52] [[], [], [], [1, 2], [0, 3], [4], [], [], [], [7, 8], [6, 9], [10], [5, 11], [12]] (fun D ρ wx => Own w S wx [row (.slice a N c) (d1.toList.map (ic .u16)) 57 1] ∧ (D 0 = true → ρ 39 = .slice a N c) ∧ (D 1 = true → ρ 40 = .int .i64 ((first : Nat) : Int)) ∧ (D 2 = true → ρ 41 = .int .i64 ((r : Nat) : Int)) ∧ (D 3 = true → ρ 42 = .int .i64 ((first + r : Nat) : Int)) ∧ (D 4 = true → ρ 43 = .pointer (some ⟨bkS (.slice a N c), ofS (.slice a N c) + ((first + r : Nat) : Int).toNat * 1, none⟩)) ∧ (D 5 = true → ρ 44 = .int .u16 (d1[first + r]!)) ∧ (D 6 = true → ρ 45 = .slice a N c) ∧ (D 7 = true → ρ 46 = .int .i64 ((first : Nat) : Int)) ∧ (D 8 = true → ρ 47 = .int .i64 ((((2 * r) + 1) + 1 : Nat) : Int)) ∧ (D 9 = true → ρ 48 = .int .i64 ((first + (((2 * r) + 1) + 1) : Nat) : Int)) ∧ (D 10 = true → ρ 49 = .pointer (some ⟨bkS (.slice a N c), ofS (.slice a N c) + ((first + (((2 * r) + 1) + 1) : Nat) : Int).toNat * 1, none⟩)) ∧ (D 11 = true → ρ 50 = .int .u16 (d1[first + (((2 * r) + 1) + 1)]!)) ∧ (D 12 = true → ρ 51 = .bool (decide (d1[first + r]! < d1[first + (((2 * r) + 1) + 1)]!))) ∧ (D 13 = true → ρ 52 = .bool (!decide (d1[first + r]! < d1[first + (((2 * r) + 1) + 1)]!)))) rfl rfl rfl ⟨hs, fun h => absurd h Bool.false_ne_true, fun h => absurd h Bool.false_ne_true, fun h => absurd h Bool.false_ne_true, fun h => absurd h Bool.false_ne_true, fun h => absurd h Bool.false_ne_true, fun h => absurd h Bool.false_ne_true, fun h => absurd h Bool.false_ne_true, fun h => absurd h Bool.false_ne_true, fun h => absurd h Bool.false_ne_true, fun h => absurd h Bool.false_ne_true, fun h => absurd h Bool.false_ne_true, fun h => absurd h Bool.false_ne_true, fun h => absurd h Bool.false_ne_true, fun h => absurd h Bool.false_ne_true⟩ ⟨?_, ?_, ?_, ?_, ?_, ?_, ?_, ?_, ?_, ?_, ?_, ?_, ?_, ?_, trivial⟩ ?_
          · rintro D ρ wx hD hd hdc hf ⟨hs, f0, f1, f2, f3, f4, f5, f6, f7, f8, f9, f10, f11, f12, f13⟩
            have r0 : ρ 0 = .slice a N c := outD hf 0 rfl
            exact .inl ⟨rfl, L_move (V := .slice a N c) r0 ⟨hs, fun _ => rfl, f1, f2, f3, f4, f5, f6, f7, f8, f9, f10, f11, f12, f13⟩⟩
          · rintro D ρ wx hD hd hdc hf ⟨hs, f0, f1, f2, f3, f4, f5, f6, f7, f8, f9, f10, f11, f12, f13⟩
            have r3 : ρ 3 = .int .i64 ((first : Nat) : Int) := outD hf 3 rfl
            exact .inl ⟨rfl, L_move (V := .int .i64 ((first : Nat) : Int)) r3 ⟨hs, f0, fun _ => rfl, f2, f3, f4, f5, f6, f7, f8, f9, f10, f11, f12, f13⟩⟩
          · rintro D ρ wx hD hd hdc hf ⟨hs, f0, f1, f2, f3, f4, f5, f6, f7, f8, f9, f10, f11, f12, f13⟩
            have r8 : ρ 8 = .int .i64 ((r : Nat) : Int) := outD hf 8 rfl
            exact .inl ⟨rfl, L_move (V := .int .i64 ((r : Nat) : Int)) r8 ⟨hs, f0, f1, fun _ => rfl, f3, f4, f5, f6, f7, f8, f9, f10, f11, f12, f13⟩⟩
          · rintro D ρ wx hD hd hdc hf ⟨hs, f0, f1, f2, f3, f4, f5, f6, f7, f8, f9, f10, f11, f12, f13⟩
            have g1 := f1 (doneD hd 1 rfl)
            have g2 := f2 (doneD hd 2 rfl)
            exact .inl ⟨rfl, L_add (a := ((first : Nat) : Int)) (b := ((r : Nat) : Int)) (c := ((first + r : Nat) : Int)) g1 g2 (nat_i64 (by omega) (by omega)) ⟨hs, f0, f1, f2, fun _ => rfl, f4, f5, f6, f7, f8, f9, f10, f11, f12, f13⟩⟩
          · rintro D ρ wx hD hd hdc hf ⟨hs, f0, f1, f2, f3, f4, f5, f6, f7, f8, f9, f10, f11, f12, f13⟩
            have g0 := f0 (doneD hd 0 rfl)
            have g3 := f3 (doneD hd 3 rfl)
            exact .inl ⟨rfl, L_ixR UD_72 S1_57.1 (hs.rd 0 rfl) g0 g3 (by omega) (by simp only [List.length_map, Array.length_toList, Array.size_setIfInBounds, Go.Sort.size_swp]; omega) ⟨hs, f0, f1, f2, f3, fun _ => rfl, f5, f6, f7, f8, f9, f10, f11, f12, f13⟩⟩
          · rintro D ρ wx hD hd hdc hf ⟨hs, f0, f1, f2, f3, f4, f5, f6, f7, f8, f9, f10, f11, f12, f13⟩
            have g4 := f4 (doneD hd 4 rfl)
            exact .inl ⟨rfl, L_ldR (j := 0) (V := .int .u16 (d1[first + r]!)) (first + r) S1_57 (hs.rd 0 rfl) (da_at (by omega)) rfl g4 (by omega) ⟨hs, f0, f1, f2, f3, f4, fun _ => rfl, f6, f7, f8, f9, f10, f11, f12, f13⟩⟩
          · rintro D ρ wx hD hd hdc hf ⟨hs, f0, f1, f2, f3, f4, f5, f6, f7, f8, f9, f10, f11, f12, f13⟩
            have r0 : ρ 0 = .slice a N c := outD hf 0 rfl
            exact .inl ⟨rfl, L_move (V := .slice a N c) r0 ⟨hs, f0, f1, f2, f3, f4, f5, fun _ => rfl, f7, f8, f9, f10, f11, f12, f13⟩⟩
          · rintro D ρ wx hD hd hdc hf ⟨hs, f0, f1, f2, f3, f4, f5, f6, f7, f8, f9, f10, f11, f12, f13⟩
            have r3 : ρ 3 = .int .i64 ((first : Nat) : Int) := outD hf 3 rfl
            exact .inl ⟨rfl, L_move (V := .int .i64 ((first : Nat) : Int)) r3 ⟨hs, f0, f1, f2, f3, f4, f5, f6, fun _ => rfl, f8, f9, f10, f11, f12, f13⟩⟩
          · rintro D ρ wx hD hd hdc hf ⟨hs, f0, f1, f2, f3, f4, f5, f6, f7, f8, f9, f10, f11, f12, f13⟩
            have r9 : ρ 9 = .int .i64 ((((2 * r) + 1) + 1 : Nat) : Int) := outD hf 9 rfl
            exact .inl ⟨rfl, L_move (V := .int .i64 ((((2 * r) + 1) + 1 : Nat) : Int)) r9 ⟨hs, f0, f1, f2, f3, f4, f5, f6, f7, fun _ => rfl, f9, f10, f11, f12, f13⟩⟩
          · rintro D ρ wx hD hd hdc hf ⟨hs, f0, f1, f2, f3, f4, f5, f6, f7, f8, f9, f10, f11, f12, f13⟩
            have g7 := f7 (doneD hd 7 rfl)
            have g8 := f8 (doneD hd 8 rfl)
            exact .inl ⟨rfl, L_add (a := ((first : Nat) : Int)) (b := ((((2 * r) + 1) + 1 : Nat) : Int)) (c := ((first + (((2 * r) + 1) + 1) : Nat) : Int)) g7 g8 (nat_i64 (by omega) (by omega)) ⟨hs, f0, f1, f2, f3, f4, f5, f6, f7, f8, fun _ => rfl, f10, f11, f12, f13⟩⟩
          · rintro D ρ wx hD hd hdc hf ⟨hs, f0, f1, f2, f3, f4, f5, f6, f7, f8, f9, f10, f11, f12, f13⟩
            have g6 := f6 (doneD hd 6 rfl)
            have g9 := f9 (doneD hd 9 rfl)
            exact .inl ⟨rfl, L_ixR UD_72 S1_57.1 (hs.rd 0 rfl) g6 g9 (by omega) (by simp only [List.length_map, Array.length_toList, Array.size_setIfInBounds, Go.Sort.size_swp]; omega) ⟨hs, f0, f1, f2, f3, f4, f5, f6, f7, f8, f9, fun _ => rfl, f11, f12, f13⟩⟩
          · rintro D ρ wx hD hd hdc hf ⟨hs, f0, f1, f2, f3, f4, f5, f6, f7, f8, f9, f10, f11, f12, f13⟩
            have g10 := f10 (doneD hd 10 rfl)
            exact .inl ⟨rfl, L_ldR (j := 0) (V := .int .u16 (d1[first + (((2 * r) + 1) + 1)]!)) (first + (((2 * r) + 1) + 1)) S1_57 (hs.rd 0 rfl) (da_at (by omega)) rfl g10 (by omega) ⟨hs, f0, f1, f2, f3, f4, f5, f6, f7, f8, f9, f10, fun _ => rfl, f12, f13⟩⟩
          · rintro D ρ wx hD hd hdc hf ⟨hs, f0, f1, f2, f3, f4, f5, f6, f7, f8, f9, f10, f11, f12, f13⟩
            have g5 := f5 (doneD hd 5 rfl)
            have g11 := f11 (doneD hd 11 rfl)
            exact .inl ⟨rfl, L_callP (vs := [.int .u16 (d1[first + r]!), .int .u16 (d1[first + (((2 * r) + 1) + 1)]!)]) (V := .bool (decide (d1[first + r]! < d1[first + (((2 * r) + 1) + 1)]!))) EN_108 rfl (mapc g5 (mapc g11 rfl)) (less_ok _ (d1[first + r]!) (d1[first + (((2 * r) + 1) + 1)]!)) hs fun _ hs0 => ⟨hs0, f0, f1, f2, f3, f4, f5, f6, f7, f8, f9, f10, f11, fun _ => rfl, f13⟩⟩
          · rintro D ρ wx hD hd hdc hf ⟨hs, f0, f1, f2, f3, f4, f5, f6, f7, f8, f9, f10, f11, f12, f13⟩
            have g12 := f12 (doneD hd 12 rfl)
            exact .inl ⟨rfl, L_not g12 ⟨hs, f0, f1, f2, f3, f4, f5, f6, f7, f8, f9, f10, f11, f12, fun _ => rfl⟩⟩
          · rintro ρ1 w1 D hD hf ⟨hs, f0, f1, f2, f3, f4, f5, f6, f7, f8, f9, f10, f11, f12, f13⟩
            have e13 := f13 (hD 13 rfl)
            clear f0 f1 f2 f3 f4 f5 f6 f7 f8 f9 f10 f11 f12 f13
            obtain ⟨ρ2, hρ⟩ : ∃ ρ2, ρ1 = upd (mix [39, 40, 41, 42, 43, 44, 45, 46, 47, 48, 49, 50, 51, 52] ρ2 _) 52 (.bool (!decide (d1[first + r]! < d1[first + (((2 * r) + 1) + 1)]!))) := ⟨ρ1, upd_of (mix_of (ds := [39, 40, 41, 42, 43, 44, 45, 46, 47, 48, 49, 50, 51, 52]) hf) e13⟩
            clear hf hD e13
            subst hρ
            refine W_cond (t := !decide (d1[first + r]! < d1[first + (((2 * r) + 1) + 1)]!)) rfl (fun c8 => ?_) (fun c8 => ?_)
            ·
              replace c8 := not_t c8
              replace c8 := of_decide_eq_false c8
              refine W_ret ?_
              refine ⟨_, res_none Try.results116, ?_⟩
              have hX : d1 = Sort.siftDown Sort.ltInt hi first lo d := by rw [← hev, sd_2 c2 c5 c5r, if_neg c8]
              exact ⟨(), rfl, hX ▸ hs.take 1, hX ▸ (by first | assumption | (simp only [Array.size_setIfInBounds, Go.Sort.size_swp]; omega))⟩
            ·
              replace c8 := not_f c8
              replace c8 := of_decide_eq_true c8
              refine W_skip ?_
              refine W_seq ?_
              replace hs := hs.drew
              refine W_draw2 HM [53, 54, 55, 56, 57, 58, 59, 60, 61, 62, 63, 64, 65, 66, 67, 68, 69, 70, 71, 72, 73, 74] [[], [], [], [1, 2], [], [], [], [5, 6], [], [], [], [9, 10], [8, 11], [12], [], [], [], [15, 16], [14, 17], [18], [0, 3, 0, 1, 2, 3, 8, 9, 10, 11, 12, 13, 19], [20, 13, 0, 1, 2, 3, 8, 9, 10, 11, 12, 13, 19], [4, 7, 0, 1, 2, 3, 4, 5, 6, 7, 8, 9, 10, 11, 12, 13, 14, 15, 16, 17, 18, 19, 20, 21], [22, 19, 21, 0, 1, 2, 3, 4, 5, 6, 7, 8, 9, 10, 11, 12, 13, 14, 15, 16, 17, 18, 19, 20, 21]] (fun D ρ wx => Own w S wx [cond (D 23) (row (.slice a N c) ((((d1.setIfInBounds (first + r) (d1[first + (((2 * r) + 1) + 1)]!)).setIfInBounds (first + (((2 * r) + 1) + 1)) (d1[first + r]!)).toList).map (ic .u16)) 57 1) (cond (D 21) (row (.slice a N c) (((d1.setIfInBounds (first + r) (d1[first + (((2 * r) + 1) + 1)]!)).toList).map (ic .u16)) 57 1) (row (.slice a N c) (d1.toList.map (ic .u16)) 57 1))] ∧ (D 0 = true → ρ 53 = .slice a N c) ∧ (D 1 = true → ρ 54 = .int .i64 ((first : Nat) : Int)) ∧ (D 2 = true → ρ 55 = .int .i64 ((r : Nat) : Int)) ∧ (D 3 = true → ρ 56 = .int .i64 ((first + r : Nat) : Int)) ∧ (D 4 = true → ρ 57 = .slice a N c) ∧ (D 5 = true → ρ 58 = .int .i64 ((first : Nat) : Int)) ∧ (D 6 = true → ρ 59 = .int .i64 ((((2 * r) + 1) + 1 : Nat) : Int)) ∧ (D 7 = true → ρ 60 = .int .i64 ((first + (((2 * r) + 1) + 1) : Nat) : Int)) ∧ (D 8 = true → ρ 61 = .slice a N c) ∧ (D 9 = true → ρ 62 = .int .i64 ((first : Nat) : Int)) ∧ (D 10 = true → ρ 63 = .int .i64 ((((2 * r) + 1) + 1 : Nat) : Int)) ∧ (D 11 = true → ρ 64 = .int .i64 ((first + (((2 * r) + 1) + 1) : Nat) : Int)) ∧ (D 12 = true → ρ 65 = .pointer (some ⟨bkS (.slice a N c), ofS (.slice a N c) + ((first + (((2 * r) + 1) + 1) : Nat) : Int).toNat * 1, none⟩)) ∧ (D 13 = true → ρ 66 = .int .u16 (d1[first + (((2 * r) + 1) + 1)]!)) ∧ (D 14 = true → ρ 67 = .slice a N c) ∧ (D 15 = true → ρ 68 = .int .i64 ((first : Nat) : Int)) ∧ (D 16 = true → ρ 69 = .int .i64 ((r : Nat) : Int)) ∧ (D 17 = true → ρ 70 = .int .i64 ((first + r : Nat) : Int)) ∧ (D 18 = true → ρ 71 = .pointer (some ⟨bkS (.slice a N c), ofS (.slice a N c) + ((first + r : Nat) : Int).toNat * 1, none⟩)) ∧ (D 19 = true → ρ 72 = .int .u16 (d1[first + r]!)) ∧ (D 20 = true → ρ 73 = .pointer (some ⟨bkS (.slice a N c), ofS (.slice a N c) + ((first + r : Nat) : Int).toNat * 1, none⟩)) ∧ (True) ∧ (D 22 = true → ρ 74 = .pointer (some ⟨bkS (.slice a N c), ofS (.slice a N c) + ((first + (((2 * r) + 1) + 1) : Nat) : Int).toNat * 1, none⟩)) ∧ (True)) rfl rfl rfl ⟨hs, fun h => absurd h Bool.false_ne_true, fun h => absurd h Bool.false_ne_true, fun h => absurd h Bool.false_ne_true, fun h => absurd h Bool.false_ne_true, fun h => absurd h Bool.false_ne_true, fun h => absurd h Bool.false_ne_true, fun h => absurd h Bool.false_ne_true, fun h => absurd h Bool.false_ne_true, fun h => absurd h Bool.false_ne_true, fun h => absurd h Bool.false_ne_true, fun h => absurd h Bool.false_ne_true, fun h => absurd h Bool.false_ne_true, fun h => absurd h Bool.false_ne_true, fun h => absurd h Bool.false_ne_true, fun h => absurd h Bool.false_ne_true, fun h => absurd h Bool.false_ne_true, fun h => absurd h Bool.false_ne_true, fun h => absurd h Bool.false_ne_true, fun h => absurd h Bool.false_ne_true, fun h => absurd h Bool.false_ne_true, fun h => absurd h Bool.false_ne_true, trivial, fun h => absurd h Bool.false_ne_true, trivial⟩ ⟨?_, ?_, ?_, ?_, ?_, ?_, ?_, ?_, ?_, ?_, ?_, ?_, ?_, ?_, ?_, ?_, ?_, ?_, ?_, ?_, ?_, ?_, ?_, ?_, trivial⟩ ?_
              · rintro D ρ wx hD hd hdc hf ⟨hs, f0, f1, f2, f3, f4, f5, f6, f7, f8, f9, f10, f11, f12, f13, f14, f15, f16, f17, f18, f19, f20, f21, f22, f23⟩
                have r0 : ρ 0 = .slice a N c := outD hf 0 rfl
                exact .inl ⟨rfl, L_move (V := .slice a N c) r0 ⟨hs, fun _ => rfl, f1, f2, f3, f4, f5, f6, f7, f8, f9, f10, f11, f12, f13, f14, f15, f16, f17, f18, f19, f20, f21, f22, f23⟩⟩
              · rintro D ρ wx hD hd hdc hf ⟨hs, f0, f1, f2, f3, f4, f5, f6, f7, f8, f9, f10, f11, f12, f13, f14, f15, f16, f17, f18, f19, f20, f21, f22, f23⟩
                have r3 : ρ 3 = .int .i64 ((first : Nat) : Int) := outD hf 3 rfl
                exact .inl ⟨rfl, L_move (V := .int .i64 ((first : Nat) : Int)) r3 ⟨hs, f0, fun _ => rfl, f2, f3, f4, f5, f6, f7, f8, f9, f10, f11, f12, f13, f14, f15, f16, f17, f18, f19, f20, f21, f22, f23⟩⟩
              · rintro D ρ wx hD hd hdc hf ⟨hs, f0, f1, f2, f3, f4, f5, f6, f7, f8, f9, f10, f11, f12, f13, f14, f15, f16, f17, f18, f19, f20, f21, f22, f23⟩
                have r8 : ρ 8 = .int .i64 ((r : Nat) : Int) := outD hf 8 rfl
                exact .inl ⟨rfl, L_move (V := .int .i64 ((r : Nat) : Int)) r8 ⟨hs, f0, f1, fun _ => rfl, f3, f4, f5, f6, f7, f8, f9, f10, f11, f12, f13, f14, f15, f16, f17, f18, f19, f20, f21, f22, f23⟩⟩
              · rintro D ρ wx hD hd hdc hf ⟨hs, f0, f1, f2, f3, f4, f5, f6, f7, f8, f9, f10, f11, f12, f13, f14, f15, f16, f17, f18, f19, f20, f21, f22, f23⟩
                have g1 := f1 (doneD hd 1 rfl)
                have g2 := f2 (doneD hd 2 rfl)
                exact .inl ⟨rfl, L_add (a := ((first : Nat) : Int)) (b := ((r : Nat) : Int)) (c := ((first + r : Nat) : Int)) g1 g2 (nat_i64 (by omega) (by omega)) ⟨hs, f0, f1, f2, fun _ => rfl, f4, f5, f6, f7, f8, f9, f10, f11, f12, f13, f14, f15, f16, f17, f18, f19, f20, f21, f22, f23⟩⟩
              · rintro D ρ wx hD hd hdc hf ⟨hs, f0, f1, f2, f3, f4, f5, f6, f7, f8, f9, f10, f11, f12, f13, f14, f15, f16, f17, f18, f19, f20, f21, f22, f23⟩
                have r0 : ρ 0 = .slice a N c := outD hf 0 rfl
                exact .inl ⟨rfl, L_move (V := .slice a N c) r0 ⟨hs, f0, f1, f2, f3, fun _ => rfl, f5, f6, f7, f8, f9, f10, f11, f12, f13, f14, f15, f16, f17, f18, f19, f20, f21, f22, f23⟩⟩
              · rintro D ρ wx hD hd hdc hf ⟨hs, f0, f1, f2, f3, f4, f5, f6, f7, f8, f9, f10, f11, f12, f13, f14, f15, f16, f17, f18, f19, f20, f21, f22, f23⟩
                have r3 : ρ 3 = .int .i64 ((first : Nat) : Int) := outD hf 3 rfl
                exact .inl ⟨rfl, L_move (V := .int .i64 ((first : Nat) : Int)) r3 ⟨hs, f0, f1, f2, f3, f4, fun _ => rfl, f6, f7, f8, f9, f10, f11, f12, f13, f14, f15, f16, f17, f18, f19, f20, f21, f22, f23⟩⟩
              · rintro D ρ wx hD hd hdc hf ⟨hs, f0, f1, f2, f3, f4, f5, f6, f7, f8, f9, f10, f11, f12, f13, f14, f15, f16, f17, f18, f19, f20, f21, f22, f23⟩
                have r9 : ρ 9 = .int .i64 ((((2 * r) + 1) + 1 : Nat) : Int) := outD hf 9 rfl
                exact .inl ⟨rfl, L_move (V := .int .i64 ((((2 * r) + 1) + 1 : Nat) : Int)) r9 ⟨hs, f0, f1, f2, f3, f4, f5, fun _ => rfl, f7, f8, f9, f10, f11, f12, f13, f14, f15, f16, f17, f18, f19, f20, f21, f22, f23⟩⟩
              · rintro D ρ wx hD hd hdc hf ⟨hs, f0, f1, f2, f3, f4, f5, f6, f7, f8, f9, f10, f11, f12, f13, f14, f15, f16, f17, f18, f19, f20, f21, f22, f23⟩
                have g5 := f5 (doneD hd 5 rfl)
                have g6 := f6 (doneD hd 6 rfl)
                exact .inl ⟨rfl, L_add (a := ((first : Nat) : Int)) (b := ((((2 * r) + 1) + 1 : Nat) : Int)) (c := ((first + (((2 * r) + 1) + 1) : Nat) : Int)) g5 g6 (nat_i64 (by omega) (by omega)) ⟨hs, f0, f1, f2, f3, f4, f5, f6, fun _ => rfl, f8, f9, f10, f11, f12, f13, f14, f15, f16, f17, f18, f19, f20, f21, f22, f23⟩⟩
              · rintro D ρ wx hD hd hdc hf ⟨hs, f0, f1, f2, f3, f4, f5, f6, f7, f8, f9, f10, f11, f12, f13, f14, f15, f16, f17, f18, f19, f20, f21, f22, f23⟩
                have r0 : ρ 0 = .slice a N c := outD hf 0 rfl
                exact .inl ⟨rfl, L_move (V := .slice a N c) r0 ⟨hs, f0, f1, f2, f3, f4, f5, f6, f7, fun _ => rfl, f9, f10, f11, f12, f13, f14, f15, f16, f17, f18, f19, f20, f21, f22, f23⟩⟩
              · rintro D ρ wx hD hd hdc hf ⟨hs, f0, f1, f2, f3, f4, f5, f6, f7, f8, f9, f10, f11, f12, f13, f14, f15, f16, f17, f18, f19, f20, f21, f22, f23⟩
                have r3 : ρ 3 = .int .i64 ((first : Nat) : Int) := outD hf 3 rfl
                exact .inl ⟨rfl, L_move (V := .int .i64 ((first : Nat) : Int)) r3 ⟨hs, f0, f1, f2, f3, f4, f5, f6, f7, f8, fun _ => rfl, f10, f11, f12, f13, f14, f15, f16, f17, f18, f19, f20, f21, f22, f23⟩⟩
              · rintro D ρ wx hD hd hdc hf ⟨hs, f0, f1, f2, f3, f4, f5, f6, f7, f8, f9, f10, f11, f12, f13, f14, f15, f16, f17, f18, f19, f20, f21, f22, f23⟩
                have r9 : ρ 9 = .int .i64 ((((2 * r) + 1) + 1 : Nat) : Int) := outD hf 9 rfl
                exact .inl ⟨rfl, L_move (V := .int .i64 ((((2 * r) + 1) + 1 : Nat) : Int)) r9 ⟨hs, f0, f1, f2, f3, f4, f5, f6, f7, f8, f9, fun _ => rfl, f11, f12, f13, f14, f15, f16, f17, f18, f19, f20, f21, f22, f23⟩⟩
              · rintro D ρ wx hD hd hdc hf ⟨hs, f0, f1, f2, f3, f4, f5, f6, f7, f8, f9, f10, f11, f12, f13, f14, f15, f16, f17, f18, f19, f20, f21, f22, f23⟩
                have g9 := f9 (doneD hd 9 rfl)
                have g10 := f10 (doneD hd 10 rfl)
                exact .inl ⟨rfl, L_add (a := ((first : Nat) : Int)) (b := ((((2 * r) + 1) + 1 : Nat) : Int)) (c := ((first + (((2 * r) + 1) + 1) : Nat) : Int)) g9 g10 (nat_i64 (by omega) (by omega)) ⟨hs, f0, f1, f2, f3, f4, f5, f6, f7, f8, f9, f10, fun _ => rfl, f12, f13, f14, f15, f16, f17, f18, f19, f20, f21, f22, f23⟩⟩
              · rintro D ρ wx hD hd hdc hf ⟨hs, f0, f1, f2, f3, f4, f5, f6, f7, f8, f9, f10, f11, f12, f13, f14, f15, f16, f17, f18, f19, f20, f21, f22, f23⟩
                have g8 := f8 (doneD hd 8 rfl)
                have g11 := f11 (doneD hd 11 rfl)
                have d21 : D 21 = false := (notYetD hdc (j := 21) rfl rfl hD)
                have d23 : D 23 = false := (notYetD hdc (j := 23) rfl rfl hD)
                have hs0 := hs; rw [d21, d23] at hs0
                exact .inl ⟨rfl, L_ixR UD_72 S1_57.1 (hs0.rd 0 rfl) g8 g11 (by omega) (by simp only [List.length_map, Array.length_toList, Array.size_setIfInBounds, Go.Sort.size_swp]; omega) ⟨hs, f0, f1, f2, f3, f4, f5, f6, f7, f8, f9, f10, f11, fun _ => rfl, f13, f14, f15, f16, f17, f18, f19, f20, f21, f22, f23⟩⟩
              · rintro D ρ wx hD hd hdc hf ⟨hs, f0, f1, f2, f3, f4, f5, f6, f7, f8, f9, f10, f11, f12, f13, f14, f15, f16, f17, f18, f19, f20, f21, f22, f23⟩
                have g12 := f12 (doneD hd 12 rfl)
                have d21 : D 21 = false := (notYetD hdc (j := 21) rfl rfl hD)
                have d23 : D 23 = false := (notYetD hdc (j := 23) rfl rfl hD)
                have hs0 := hs; rw [d21, d23] at hs0
                exact .inl ⟨rfl, L_ldR (j := 0) (V := .int .u16 (d1[first + (((2 * r) + 1) + 1)]!)) (first + (((2 * r) + 1) + 1)) S1_57 (hs0.rd 0 rfl) (da_at (by omega)) rfl g12 (by omega) ⟨hs, f0, f1, f2, f3, f4, f5, f6, f7, f8, f9, f10, f11, f12, fun _ => rfl, f14, f15, f16, f17, f18, f19, f20, f21, f22, f23⟩⟩
              · rintro D ρ wx hD hd hdc hf ⟨hs, f0, f1, f2, f3, f4, f5, f6, f7, f8, f9, f10, f11, f12, f13, f14, f15, f16, f17, f18, f19, f20, f21, f22, f23⟩
                have r0 : ρ 0 = .slice a N c := outD hf 0 rfl
                exact .inl ⟨rfl, L_move (V := .slice a N c) r0 ⟨hs, f0, f1, f2, f3, f4, f5, f6, f7, f8, f9, f10, f11, f12, f13, fun _ => rfl, f15, f16, f17, f18, f19, f20, f21, f22, f23⟩⟩
              · rintro D ρ wx hD hd hdc hf ⟨hs, f0, f1, f2, f3, f4, f5, f6, f7, f8, f9, f10, f11, f12, f13, f14, f15, f16, f17, f18, f19, f20, f21, f22, f23⟩
                have r3 : ρ 3 = .int .i64 ((first : Nat) : Int) := outD hf 3 rfl
                exact .inl ⟨rfl, L_move (V := .int .i64 ((first : Nat) : Int)) r3 ⟨hs, f0, f1, f2, f3, f4, f5, f6, f7, f8, f9, f10, f11, f12, f13, f14, fun _ => rfl, f16, f17, f18, f19, f20, f21, f22, f23⟩⟩
              · rintro D ρ wx hD hd hdc hf ⟨hs, f0, f1, f2, f3, f4, f5, f6, f7, f8, f9, f10, f11, f12, f13, f14, f15, f16, f17, f18, f19, f20, f21, f22, f23⟩
                have r8 : ρ 8 = .int .i64 ((r : Nat) : Int) := outD hf 8 rfl
                exact .inl ⟨rfl, L_move (V := .int .i64 ((r : Nat) : Int)) r8 ⟨hs, f0, f1, f2, f3, f4, f5, f6, f7, f8, f9, f10, f11, f12, f13, f14, f15, fun _ => rfl, f17, f18, f19, f20, f21, f22, f23⟩⟩
              · rintro D ρ wx hD hd hdc hf ⟨hs, f0, f1, f2, f3, f4, f5, f6, f7, f8, f9, f10, f11, f12, f13, f14, f15, f16, f17, f18, f19, f20, f21, f22, f23⟩
                have g15 := f15 (doneD hd 15 rfl)
                have g16 := f16 (doneD hd 16 rfl)
                exact .inl ⟨rfl, L_add (a := ((first : Nat) : Int)) (b := ((r : Nat) : Int)) (c := ((first + r : Nat) : Int)) g15 g16 (nat_i64 (by omega) (by omega)) ⟨hs, f0, f1, f2, f3, f4, f5, f6, f7, f8, f9, f10, f11, f12, f13, f14, f15, f16, fun _ => rfl, f18, f19, f20, f21, f22, f23⟩⟩
              · rintro D ρ wx hD hd hdc hf ⟨hs, f0, f1, f2, f3, f4, f5, f6, f7, f8, f9, f10, f11, f12, f13, f14, f15, f16, f17, f18, f19, f20, f21, f22, f23⟩
                have g14 := f14 (doneD hd 14 rfl)
                have g17 := f17 (doneD hd 17 rfl)
                have d21 : D 21 = false := (notYetD hdc (j := 21) rfl rfl (notYetD hdc (j := 19) rfl rfl hD))
                have d23 : D 23 = false := (notYetD hdc (j := 23) rfl rfl hD)
                have hs0 := hs; rw [d21, d23] at hs0
                exact .inl ⟨rfl, L_ixR UD_72 S1_57.1 (hs0.rd 0 rfl) g14 g17 (by omega) (by simp only [List.length_map, Array.length_toList, Array.size_setIfInBounds, Go.Sort.size_swp]; omega) ⟨hs, f0, f1, f2, f3, f4, f5, f6, f7, f8, f9, f10, f11, f12, f13, f14, f15, f16, f17, fun _ => rfl, f19, f20, f21, f22, f23⟩⟩
              · rintro D ρ wx hD hd hdc hf ⟨hs, f0, f1, f2, f3, f4, f5, f6, f7, f8, f9, f10, f11, f12, f13, f14, f15, f16, f17, f18, f19, f20, f21, f22, f23⟩
                have g18 := f18 (doneD hd 18 rfl)
                have d21 : D 21 = false := (notYetD hdc (j := 21) rfl rfl hD)
                have d23 : D 23 = false := (notYetD hdc (j := 23) rfl rfl hD)
                have hs0 := hs; rw [d21, d23] at hs0
                exact .inl ⟨rfl, L_ldR (j := 0) (V := .int .u16 (d1[first + r]!)) (first + r) S1_57 (hs0.rd 0 rfl) (da_at (by omega)) rfl g18 (by omega) ⟨hs, f0, f1, f2, f3, f4, f5, f6, f7, f8, f9, f10, f11, f12, f13, f14, f15, f16, f17, f18, fun _ => rfl, f20, f21, f22, f23⟩⟩
              · rintro D ρ wx hD hd hdc hf ⟨hs, f0, f1, f2, f3, f4, f5, f6, f7, f8, f9, f10, f11, f12, f13, f14, f15, f16, f17, f18, f19, f20, f21, f22, f23⟩
                have g0 := f0 (doneD hd 0 rfl)
                have g3 := f3 (doneD hd 3 rfl)
                have d21 : D 21 = false := (notYetD hdc (j := 21) rfl rfl hD)
                have d23 : D 23 = false := (notYetD hdc (j := 23) rfl rfl hD)
                have hs0 := hs; rw [d21, d23] at hs0
                exact .inl ⟨rfl, L_ixR UD_72 S1_57.1 (hs0.rd 0 rfl) g0 g3 (by omega) (by simp only [List.length_map, Array.length_toList, Array.size_setIfInBounds, Go.Sort.size_swp]; omega) ⟨hs, f0, f1, f2, f3, f4, f5, f6, f7, f8, f9, f10, f11, f12, f13, f14, f15, f16, f17, f18, f19, fun _ => rfl, f21, f22, f23⟩⟩
              · rintro D ρ wx hD hd hdc hf ⟨hs, f0, f1, f2, f3, f4, f5, f6, f7, f8, f9, f10, f11, f12, f13, f14, f15, f16, f17, f18, f19, f20, f21, f22, f23⟩
                have g13 := f13 (doneD hd 13 rfl)
                have g20 := f20 (doneD hd 20 rfl)
                have d21 : D 21 = false := hD
                have d23 : D 23 = false := (notYetD hdc (j := 23) rfl rfl hD)
                have hs0 := hs; rw [d21, d23] at hs0
                refine .inl ⟨rfl, L_stA (z := d1[first + (((2 * r) + 1) + 1)]!) (first + r) S1_57 hs0 0 rfl g20 (by omega) (by first | omega | (simp only [Array.size_setIfInBounds, Go.Sort.size_swp]; omega)) g13 rfl rfl fun _ hs0 => ⟨?_, f0, f1, f2, f3, f4, f5, f6, f7, f8, f9, f10, f11, f12, f13, f14, f15, f16, f17, f18, f19, f20, trivial, f22, f23⟩⟩
                rw [show Go.Vx.mark D 21 23 = false from d23]
                exact hs0
              · rintro D ρ wx hD hd hdc hf ⟨hs, f0, f1, f2, f3, f4, f5, f6, f7, f8, f9, f10, f11, f12, f13, f14, f15, f16, f17, f18, f19, f20, f21, f22, f23⟩
                have g4 := f4 (doneD hd 4 rfl)
                have g7 := f7 (doneD hd 7 rfl)
                have d21 : D 21 = true := doneD hd 21 rfl
                have d23 : D 23 = false := (notYetD hdc (j := 23) rfl rfl hD)
                have hs0 := hs; rw [d21, d23] at hs0
                exact .inl ⟨rfl, L_ixR UD_72 S1_57.1 (hs0.rd 0 rfl) g4 g7 (by omega) (by simp only [List.length_map, Array.length_toList, Array.size_setIfInBounds, Go.Sort.size_swp]; omega) ⟨hs, f0, f1, f2, f3, f4, f5, f6, f7, f8, f9, f10, f11, f12, f13, f14, f15, f16, f17, f18, f19, f20, f21, fun _ => rfl, f23⟩⟩
              · rintro D ρ wx hD hd hdc hf ⟨hs, f0, f1, f2, f3, f4, f5, f6, f7, f8, f9, f10, f11, f12, f13, f14, f15, f16, f17, f18, f19, f20, f21, f22, f23⟩
                have g19 := f19 (doneD hd 19 rfl)
                have g22 := f22 (doneD hd 22 rfl)
                have d21 : D 21 = true := doneD hd 21 rfl
                have d23 : D 23 = false := hD
                have hs0 := hs; rw [d21, d23] at hs0
                refine .inl ⟨rfl, L_stA (z := d1[first + r]!) (first + (((2 * r) + 1) + 1)) S1_57 hs0 0 rfl g22 (by omega) (by first | omega | (simp only [Array.size_setIfInBounds, Go.Sort.size_swp]; omega)) g19 rfl rfl fun _ hs0 => ⟨?_, f0, f1, f2, f3, f4, f5, f6, f7, f8, f9, f10, f11, f12, f13, f14, f15, f16, f17, f18, f19, f20, f21, f22, trivial⟩⟩
                rw [show Go.Vx.mark D 23 21 = true from d21]
                exact hs0
              · rintro ρ1 w1 D hD hf ⟨hs, f0, f1, f2, f3, f4, f5, f6, f7, f8, f9, f10, f11, f12, f13, f14, f15, f16, f17, f18, f19, f20, f21, f22, f23⟩
                rw [hD 21 rfl, hD 23 rfl] at hs
                clear f0 f1 f2 f3 f4 f5 f6 f7 f8 f9 f10 f11 f12 f13 f14 f15 f16 f17 f18 f19 f20 f21 f22 f23
                obtain ⟨ρ2, hρ⟩ : ∃ ρ2, ρ1 = mix [53, 54, 55, 56, 57, 58, 59, 60, 61, 62, 63, 64, 65, 66, 67, 68, 69, 70, 71, 72, 73, 74] ρ2 _ := ⟨ρ1, mix_of (ds := [53, 54, 55, 56, 57, 58, 59, 60, 61, 62, 63, 64, 65, 66, 67, 68, 69, 70, 71, 72, 73, 74]) hf⟩
                clear hf hD
                subst hρ
                refine W_region ?_
                refine RW_op (L_move (V := .int .i64 ((((2 * r) + 1) + 1 : Nat) : Int)) rfl ?_)
                refine RW_op (L_assign (V := .int .i64 ((((2 * r) + 1) + 1 : Nat) : Int)) rfl ?_)
                refine RW_nil ?_
                refine ⟨_, ?_, _, ((2 * r) + 1) + 1, ((d1.setIfInBounds (first + r) (d1[first + (((2 * r) + 1) + 1)]!)).setIfInBounds (first + (((2 * r) + 1) + 1)) (d1[first + r]!)), upd_of (mix_of (ds := [8, 9, 11, 12, 13, 14, 15, 16, 17, 18, 19, 20, 21, 22, 23, 24, 25, 26, 27, 28, 29, 30, 31, 32, 33, 34, 35, 36, 37, 38, 39, 40, 41, 42, 43, 44, 45, 46, 47, 48, 49, 50, 51, 52, 53, 54, 55, 56, 57, 58, 59, 60, 61, 62, 63, 64, 65, 66, 67, 68, 69, 70, 71, 72, 73, 74, 75]) (by repeat (first | exact Agr.refl _ _ | refine Agr.upd ?_ rfl | refine Agr.mix ?_ rfl))) rfl, (by omega), (by simp only [Array.size_setIfInBounds]; exact hz1), (by rw [← hev, sd_2 c2 c5 c5r, if_pos c8]; rfl), rfl, hs.take 1⟩
                omega
        ·
          refine W_skip ?_
          refine W_seq ?_
          refine W_seq ?_
          replace hs := hs.drew
          refine W_draw2 HM [39, 40, 41, 42, 43, 44, 45, 46, 47, 48, 49, 50, 51, 52] [[], [], [], [1, 2], [0, 3], [4], [], [], [], [7, 8], [6, 9], [10], [5, 11], [12]] (fun D ρ wx => Own w S wx [row (.slice a N c) (d1.toList.map (ic .u16)) 57 1] ∧ (D 0 = true → ρ 39 = .slice a N c) ∧ (D 1 = true → ρ 40 = .int .i64 ((first : Nat) : Int)) ∧ (D 2 = true → ρ 41 = .int .i64 ((r : Nat) : Int)) ∧ (D 3 = true → ρ 42 = .int .i64 ((first + r : Nat) : Int)) ∧ (D 4 = true → ρ 43 = .pointer (some ⟨bkS (.slice a N c), ofS (.slice a N c) + ((first + r : Nat) : Int).toNat * 1, none⟩)) ∧ (D 5 = true → ρ 44 = .int .u16 (d1[first + r]!)) ∧ (D 6 = true → ρ 45 = .slice a N c) ∧ (D 7 = true → ρ 46 = .int .i64 ((first : Nat) : Int)) ∧ (D 8 = true → ρ 47 = .int .i64 (((2 * r) + 1 : Nat) : Int)) ∧ (D 9 = true → ρ 48 = .int .i64 ((first + ((2 * r) + 1) : Nat) : Int)) ∧ (D 10 = true → ρ 49 = .pointer (some ⟨bkS (.slice a N c), ofS (.slice a N c) + ((first + ((2 * r) + 1) : Nat) : Int).toNat * 1, none⟩)) ∧ (D 11 = true → ρ 50 = .int .u16 (d1[first + ((2 * r) + 1)]!)) ∧ (D 12 = true → ρ 51 = .bool (decide (d1[first + r]! < d1[first + ((2 * r) + 1)]!))) ∧ (D 13 = true → ρ 52 = .bool (!decide (d1[first + r]! < d1[first + ((2 * r) + 1)]!)))) rfl rfl rfl ⟨hs, fun h => absurd h Bool.false_ne_true, fun h => absurd h Bool.false_ne_true, fun h => absurd h Bool.false_ne_true, fun h => absurd h Bool.false_ne_true, fun h => absurd h Bool.false_ne_true, fun h => absurd h Bool.false_ne_true, fun h => absurd h Bool.false_ne_true, fun h => absurd h Bool.false_ne_true, fun h => absurd h Bool.false_ne_true, fun h => absurd h Bool.false_ne_true, fun h => absurd h Bool.false_ne_true, fun h => absurd h Bool.false_ne_true, fun h => absurd h Bool.false_ne_true, fun h => absurd h Bool.false_ne_true⟩ ⟨?_, ?_, ?_, ?_, ?_, ?_, ?_, ?_, ?_, ?_, ?_, ?_, ?_, ?_, trivial⟩ ?_
          · rintro D ρ wx hD hd hdc hf ⟨hs, f0, f1, f2, f3, f4, f5, f6, f7, f8, f9, f10, f11, f12, f13⟩
            have r0 : ρ 0 = .slice a N c := outD hf 0 rfl
            exact .inl ⟨rfl, L_move (V := .slice a N c) r0 ⟨hs, fun _ => rfl, f1, f2, f3, f4, f5, f6, f7, f8, f9, f10, f11, f12, f13⟩⟩
          · rintro D ρ wx hD hd hdc hf ⟨hs, f0, f1, f2, f3, f4, f5, f6, f7, f8, f9, f10, f11, f12, f13⟩
            have r3 : ρ 3 = .int .i64 ((first : Nat) : Int) := outD hf 3 rfl
            exact .inl ⟨rfl, L_move (V := .int .i64 ((first : Nat) : Int)) r3 ⟨hs, f0, fun _ => rfl, f2, f3, f4, f5, f6, f7, f8, f9, f10, f11, f12, f13⟩⟩
          · rintro D ρ wx hD hd hdc hf ⟨hs, f0, f1, f2, f3, f4, f5, f6, f7, f8, f9, f10, f11, f12, f13⟩
            have r8 : ρ 8 = .int .i64 ((r : Nat) : Int) := outD hf 8 rfl
            exact .inl ⟨rfl, L_move (V := .int .i64 ((r : Nat) : Int)) r8 ⟨hs, f0, f1, fun _ => rfl, f3, f4, f5, f6, f7, f8, f9, f10, f11, f12, f13⟩⟩
          · rintro D ρ wx hD hd hdc hf ⟨hs, f0, f1, f2, f3, f4, f5, f6, f7, f8, f9, f10, f11, f12, f13⟩
            have g1 := f1 (doneD hd 1 rfl)
            have g2 := f2 (doneD hd 2 rfl)
            exact .inl ⟨rfl, L_add (a := ((first : Nat) : Int)) (b := ((r : Nat) : Int)) (c := ((first + r : Nat) : Int)) g1 g2 (nat_i64 (by omega) (by omega)) ⟨hs, f0, f1, f2, fun _ => rfl, f4, f5, f6, f7, f8, f9, f10, f11, f12, f13⟩⟩
          · rintro D ρ wx hD hd hdc hf ⟨hs, f0, f1, f2, f3, f4, f5, f6, f7, f8, f9, f10, f11, f12, f13⟩
            have g0 := f0 (doneD hd 0 rfl)
            have g3 := f3 (doneD hd 3 rfl)
            exact .inl ⟨rfl, L_ixR UD_72 S1_57.1 (hs.rd 0 rfl) g0 g3 (by omega) (by simp only [List.length_map, Array.length_toList, Array.size_setIfInBounds, Go.Sort.size_swp]; omega) ⟨hs, f0, f1, f2, f3, fun _ => rfl, f5, f6, f7, f8, f9, f10, f11, f12, f13⟩⟩
          · rintro D ρ wx hD hd hdc hf ⟨hs, f0, f1, f2, f3, f4, f5, f6, f7, f8, f9, f10, f11, f12, f13⟩
            have g4 := f4 (doneD hd 4 rfl)
            exact .inl ⟨rfl, L_ldR (j := 0) (V := .int .u16 (d1[first + r]!)) (first + r) S1_57 (hs.rd 0 rfl) (da_at (by omega)) rfl g4 (by omega) ⟨hs, f0, f1, f2, f3, f4, fun _ => rfl, f6, f7, f8, f9, f10, f11, f12, f13⟩⟩
          · rintro D ρ wx hD hd hdc hf ⟨hs, f0, f1, f2, f3, f4, f5, f6, f7, f8, f9, f10, f11, f12, f13⟩
            have r0 : ρ 0 = .slice a N c := outD hf 0 rfl
            exact .inl ⟨rfl, L_move (V := .slice a N c) r0 ⟨hs, f0, f1, f2, f3, f4, f5, fun _ => rfl, f7, f8, f9, f10, f11, f12, f13⟩⟩
          · rintro D ρ wx hD hd hdc hf ⟨hs, f0, f1, f2, f3, f4, f5, f6, f7, f8, f9, f10, f11, f12, f13⟩
            have r3 : ρ 3 = .int .i64 ((first : Nat) : Int) := outD hf 3 rfl
            exact .inl ⟨rfl, L_move (V := .int .i64 ((first : Nat) : Int)) r3 ⟨hs, f0, f1, f2, f3, f4, f5, f6, fun _ => rfl, f8, f9, f10, f11, f12, f13⟩⟩
          · rintro D ρ wx hD hd hdc hf ⟨hs, f0, f1, f2, f3, f4, f5, f6, f7, f8, f9, f10, f11, f12, f13⟩
            have r9 : ρ 9 = .int .i64 (((2 * r) + 1 : Nat) : Int) := outD hf 9 rfl
            exact .inl ⟨rfl, L_move (V := .int .i64 (((2 * r) + 1 : Nat) : Int)) r9 ⟨hs, f0, f1, f2, f3, f4, f5, f6, f7, fun _ => rfl, f9, f10, f11, f12, f13⟩⟩
          · rintro D ρ wx hD hd hdc hf ⟨hs, f0, f1, f2, f3, f4, f5, f6, f7, f8, f9, f10, f11, f12, f13⟩
            have g7 := f7 (doneD hd 7 rfl)
            have g8 := f8 (doneD hd 8 rfl)
            exact .inl ⟨rfl, L_add (a := ((first : Nat) : Int)) (b := (((2 * r) + 1 : Nat) : Int)) (c := ((first + ((2 * r) + 1) : Nat) : Int)) g7 g8 (nat_i64 (by omega) (by omega)) ⟨hs, f0, f1, f2, f3, f4, f5, f6, f7, f8, fun _ => rfl, f10, f11, f12, f13⟩⟩
          · rintro D ρ wx hD hd hdc hf ⟨hs, f0, f1, f2, f3, f4, f5, f6, f7, f8, f9, f10, f11, f12, f13⟩
            have g6 := f6 (doneD hd 6 rfl)
            have g9 := f9 (doneD hd 9 rfl)
            exact .inl ⟨rfl, L_ixR UD_72 S1_57.1 (hs.rd 0 rfl) g6 g9 (by omega) (by simp only [List.length_map, Array.length_toList, Array.size_setIfInBounds, Go.Sort.size_swp]; omega) ⟨hs, f0, f1, f2, f3, f4, f5, f6, f7, f8, f9, fun _ => rfl, f11, f12, f13⟩⟩
          · rintro D ρ wx hD hd hdc hf ⟨hs, f0, f1, f2, f3, f4, f5, f6, f7, f8, f9, f10, f11, f12, f13⟩
            have g10 := f10 (doneD hd 10 rfl)
            exact .inl ⟨rfl, L_ldR (j := 0) (V := .int .u16 (d1[first + ((2 * r) + 1)]!)) (first + ((2 * r) + 1)) S1_57 (hs.rd 0 rfl) (da_at (by omega)) rfl g10 (by omega) ⟨hs, f0, f1, f2, f3, f4, f5, f6, f7, f8, f9, f10, fun _ => rfl, f12, f13⟩⟩
          · rintro D ρ wx hD hd hdc hf ⟨hs, f0, f1, f2, f3, f4, f5, f6, f7, f8, f9, f10, f11, f12, f13⟩
            have g5 := f5 (doneD hd 5 rfl)
            have g11 := f11 (doneD hd 11 rfl)
            exact .inl ⟨rfl, L_callP (vs := [.int .u16 (d1[first + r]!), .int .u16 (d1[first + ((2 * r) + 1)]!)]) (V := .bool (decide (d1[first + r]! < d1[first + ((2 * r) + 1)]!))) EN_108 rfl (mapc g5 (mapc g11 rfl)) (less_ok _ (d1[first + r]!) (d1[first + ((2 * r) + 1)]!)) hs fun _ hs0 => ⟨hs0, f0, f1, f2, f3, f4, f5, f6, f7, f8, f9, f10, f11, fun _ => rfl, f13⟩⟩
          · rintro D ρ wx hD hd hdc hf ⟨hs, f0, f1, f2, f3, f4, f5, f6, f7, f8, f9, f10, f11, f12, f13⟩
            have g12 := f12 (doneD hd 12 rfl)
            exact .inl ⟨rfl, L_not g12 ⟨hs, f0, f1, f2, f3, f4, f5, f6, f7, f8, f9, f10, f11, f12, fun _ => rfl⟩⟩
          · rintro ρ1 w1 D hD hf ⟨hs, f0, f1, f2, f3, f4, f5, f6, f7, f8, f9, f10, f11, f12, f13⟩
            have e13 := f13 (hD 13 rfl)
            clear f0 f1 f2 f3 f4 f5 f6 f7 f8 f9 f10 f11 f12 f13
            obtain ⟨ρ2, hρ⟩ : ∃ ρ2, ρ1 = upd (mix [39, 40, 41, 42, 43, 44, 45, 46, 47, 48, 49, 50, 51, 52] ρ2 _) 52 (.bool (!decide (d1[first + r]! < d1[first + ((2 * r) + 1)]!))) := ⟨ρ1, upd_of (mix_of (ds := [39, 40, 41, 42, 43, 44, 45, 46, 47, 48, 49, 50, 51, 52]) hf) e13⟩
            clear hf hD e13
            subst hρ
            refine W_cond (t := !decide (d1[first + r]! < d1[first + ((2 * r) + 1)]!)) rfl (fun c14 => ?_) (fun c14 => ?_)
            ·
              replace c14 := not_t c14
              replace c14 := of_decide_eq_false c14
              refine W_ret ?_
              refine ⟨_, res_none Try.results116, ?_⟩
              have hX : d1 = Sort.siftDown Sort.ltInt hi first lo d := by rw [← hev, sd_1 c2 c5, if_neg c14]
              exact ⟨(), rfl, hX ▸ hs.take 1, hX ▸ (by first | assumption | (simp only [Array.size_setIfInBounds, Go.Sort.size_swp]; omega))⟩
            ·
              replace c14 := not_f c14
              replace c14 := of_decide_eq_true c14
              refine W_skip ?_
              refine W_seq ?_
              replace hs := hs.drew
              refine W_draw2 HM [53, 54, 55, 56, 57, 58, 59, 60, 61, 62, 63, 64, 65, 66, 67, 68, 69, 70, 71, 72, 73, 74] [[], [], [], [1, 2], [], [], [], [5, 6], [], [], [], [9, 10], [8, 11], [12], [], [], [], [15, 16], [14, 17], [18], [0, 3, 0, 1, 2, 3, 8, 9, 10, 11, 12, 13, 19], [20, 13, 0, 1, 2, 3, 8, 9, 10, 11, 12, 13, 19], [4, 7, 0, 1, 2, 3, 4, 5, 6, 7, 8, 9, 10, 11, 12, 13, 14, 15, 16, 17, 18, 19, 20, 21], [22, 19, 21, 0, 1, 2, 3, 4, 5, 6, 7, 8, 9, 10, 11, 12, 13, 14, 15, 16, 17, 18, 19, 20, 21]] (fun D ρ wx => Own w S wx [cond (D 23) (row (.slice a N c) ((((d1.setIfInBounds (first + r) (d1[first + ((2 * r) + 1)]!)).setIfInBounds (first + ((2 * r) + 1)) (d1[first + r]!)).toList).map (ic .u16)) 57 1) (cond (D 21) (row (.slice a N c) (((d1.setIfInBounds (first + r) (d1[first + ((2 * r) + 1)]!)).toList).map (ic .u16)) 57 1) (row (.slice a N c) (d1.toList.map (ic .u16)) 57 1))] ∧ (D 0 = true → ρ 53 = .slice a N c) ∧ (D 1 = true → ρ 54 = .int .i64 ((first : Nat) : Int)) ∧ (D 2 = true → ρ 55 = .int .i64 ((r : Nat) : Int)) ∧ (D 3 = true → ρ 56 = .int .i64 ((first + r : Nat) : Int)) ∧ (D 4 = true → ρ 57 = .slice a N c) ∧ (D 5 = true → ρ 58 = .int .i64 ((first : Nat) : Int)) ∧ (D 6 = true → ρ 59 = .int .i64 (((2 * r) + 1 : Nat) : Int)) ∧ (D 7 = true → ρ 60 = .int .i64 ((first + ((2 * r) + 1) : Nat) : Int)) ∧ (D 8 = true → ρ 61 = .slice a N c) ∧ (D 9 = true → ρ 62 = .int .i64 ((first : Nat) : Int)) ∧ (D 10 = true → ρ 63 = .int .i64 (((2 * r) + 1 : Nat) : Int)) ∧ (D 11 = true → ρ 64 = .int .i64 ((first + ((2 * r) + 1) : Nat) : Int)) ∧ (D 12 = true → ρ 65 = .pointer (some ⟨bkS (.slice a N c), ofS (.slice a N c) + ((first + ((2 * r) + 1) : Nat) : Int).toNat * 1, none⟩)) ∧ (D 13 = true → ρ 66 = .int .u16 (d1[first + ((2 * r) + 1)]!)) ∧ (D 14 = true → ρ 67 = .slice a N c) ∧ (D 15 = true → ρ 68 = .int .i64 ((first : Nat) : Int)) ∧ (D 16 = true → ρ 69 = .int .i64 ((r : Nat) : Int)) ∧ (D 17 = true → ρ 70 = .int .i64 ((first + r : Nat) : Int)) ∧ (D 18 = true → ρ 71 = .pointer (some ⟨bkS (.slice a N c), ofS (.slice a N c) + ((first + r : Nat) : Int).toNat * 1, none⟩)) ∧ (D 19 = true → ρ 72 = .int .u16 (d1[first + r]!)) ∧ (D 20 = true → ρ 73 = .pointer (some ⟨bkS (.slice a N c), ofS (.slice a N c) + ((first + r : Nat) : Int).toNat * 1, none⟩)) ∧ (True) ∧ (D 22 = true → ρ 74 = .pointer (some ⟨bkS (.slice a N c), ofS (.slice a N c) + ((first + ((2 * r) + 1) : Nat) : Int).toNat * 1, none⟩)) ∧ (True)) rfl rfl rfl ⟨hs, fun h => absurd h Bool.false_ne_true, fun h => absurd h Bool.false_ne_true, fun h => absurd h Bool.false_ne_true, fun h => absurd h Bool.false_ne_true, fun h => absurd h Bool.false_ne_true, fun h => absurd h Bool.false_ne_true, fun h => absurd h Bool.false_ne_true, fun h => absurd h Bool.false_ne_true, fun h => absurd h Bool.false_ne_true, fun h => absurd h Bool.false_ne_true, fun h => absurd h Bool.false_ne_true, fun h => absurd h Bool.false_ne_true, fun h => absurd h Bool.false_ne_true, fun h => absurd h Bool.false_ne_true, fun h => absurd h Bool.false_ne_true, fun h => absurd h Bool.false_ne_true, fun h => absurd h Bool.false_ne_true, fun h => absurd h Bool.false_ne_true, fun h => absurd h Bool.false_ne_true, fun h => absurd h Bool.false_ne_true, fun h => absurd h Bool.false_ne_true, trivial, fun h => absurd h Bool.false_ne_true, trivial⟩ ⟨?_, ?_, ?_, ?_, ?_, ?_, ?_, ?_, ?_, ?_, ?_, ?_, ?_, ?_, ?_, ?_, ?_, ?_, ?_, ?_, ?_, ?_, ?_, ?_, trivial⟩ ?_
              · rintro D ρ wx hD hd hdc hf ⟨hs, f0, f1, f2, f3, f4, f5, f6, f7, f8, f9, f10, f11, f12, f13, f14, f15, f16, f17, f18, f19, f20, f21, f22, f23⟩
                have r0 : ρ 0 = .slice a N c := outD hf 0 rfl
                exact .inl ⟨rfl, L_move (V := .slice a N c) r0 ⟨hs, fun _ => rfl, f1, f2, f3, f4, f5, f6, f7, f8, f9, f10, f11, f12, f13, f14, f15, f16, f17, f18, f19, f20, f21, f22, f23⟩⟩
              · rintro D ρ wx hD hd hdc hf ⟨hs, f0, f1, f2, f3, f4, f5, f6, f7, f8, f9, f10, f11, f12, f13, f14, f15, f16, f17, f18, f19, f20, f21, f22, f23⟩
                have r3 : ρ 3 = .int .i64 ((first : Nat) : Int) := outD hf 3 rfl
                exact .inl ⟨rfl, L_move (V := .int .i64 ((first : Nat) : Int)) r3 ⟨hs, f0, fun _ => rfl, f2, f3, f4, f5, f6, f7, f8, f9, f10, f11, f12, f13, f14, f15, f16, f17, f18, f19, f20, f21, f22, f23⟩⟩
              · rintro D ρ wx hD hd hdc hf ⟨hs, f0, f1, f2, f3, f4, f5, f6, f7, f8, f9, f10, f11, f12, f13, f14, f15, f16, f17, f18, f19, f20, f21, f22, f23⟩
                have r8 : ρ 8 = .int .i64 ((r : Nat) : Int) := outD hf 8 rfl
                exact .inl ⟨rfl, L_move (V := .int .i64 ((r : Nat) : Int)) r8 ⟨hs, f0, f1, fun _ => rfl, f3, f4, f5, f6, f7, f8, f9, f10, f11, f12, f13, f14, f15, f16, f17, f18, f19, f20, f21, f22, f23⟩⟩
              · rintro D ρ wx hD hd hdc hf ⟨hs, f0, f1, f2, f3, f4, f5, f6, f7, f8, f9, f10, f11, f12, f13, f14, f15, f16, f17, f18, f19, f20, f21, f22, f23⟩
                have g1 := f1 (doneD hd 1 rfl)
                have g2 := f2 (doneD hd 2 rfl)
                exact .inl ⟨rfl, L_add (a := ((first : Nat) : Int)) (b := ((r : Nat) : Int)) (c := ((first + r : Nat) : Int)) g1 g2 (nat_i64 (by omega) (by omega)) ⟨hs, f0, f1, f2, fun _ => rfl, f4, f5, f6, f7, f8, f9, f10, f11, f12, f13, f14, f15, f16, f17, f18, f19, f20, f21, f22, f23⟩⟩
              · rintro D ρ wx hD hd hdc hf ⟨hs, f0, f1, f2, f3, f4, f5, f6, f7, f8, f9, f10, f11, f12, f13, f14, f15, f16, f17, f18, f19, f20, f21, f22, f23⟩
                have r0 : ρ 0 = .slice a N c := outD hf 0 rfl
                exact .inl ⟨rfl, L_move (V := .slice a N c) r0 ⟨hs, f0, f1, f2, f3, fun _ => rfl, f5, f6, f7, f8, f9, f10, f11, f12, f13, f14, f15, f16, f17, f18, f19, f20, f21, f22, f23⟩⟩
              · rintro D ρ wx hD hd hdc hf ⟨hs, f0, f1, f2, f3, f4, f5, f6, f7, f8, f9, f10, f11, f12, f13, f14, f15, f16, f17, f18, f19, f20, f21, f22, f23⟩
                have r3 : ρ 3 = .int .i64 ((first : Nat) : Int) := outD hf 3 rfl
                exact .inl ⟨rfl, L_move (V := .int .i64 ((first : Nat) : Int)) r3 ⟨hs, f0, f1, f2, f3, f4, fun _ => rfl, f6, f7, f8, f9, f10, f11, f12, f13, f14, f15, f16, f17, f18, f19, f20, f21, f22, f23⟩⟩
              · rintro D ρ wx hD hd hdc hf ⟨hs, f0, f1, f2, f3, f4, f5, f6, f7, f8, f9, f10, f11, f12, f13, f14, f15, f16, f17, f18, f19, f20, f21, f22, f23⟩
                have r9 : ρ 9 = .int .i64 (((2 * r) + 1 : Nat) : Int) := outD hf 9 rfl
                exact .inl ⟨rfl, L_move (V := .int .i64 (((2 * r) + 1 : Nat) : Int)) r9 ⟨hs, f0, f1, f2, f3, f4, f5, fun _ => rfl, f7, f8, f9, f10, f11, f12, f13, f14, f15, f16, f17, f18, f19, f20, f21, f22, f23⟩⟩
              · rintro D ρ wx hD hd hdc hf ⟨hs, f0, f1, f2, f3, f4, f5, f6, f7, f8, f9, f10, f11, f12, f13, f14, f15, f16, f17, f18, f19, f20, f21, f22, f23⟩
                have g5 := f5 (doneD hd 5 rfl)
                have g6 := f6 (doneD hd 6 rfl)
                exact .inl ⟨rfl, L_add (a := ((first : Nat) : Int)) (b := (((2 * r) + 1 : Nat) : Int)) (c := ((first + ((2 * r) + 1) : Nat) : Int)) g5 g6 (nat_i64 (by omega) (by omega)) ⟨hs, f0, f1, f2, f3, f4, f5, f6, fun _ => rfl, f8, f9, f10, f11, f12, f13, f14, f15, f16, f17, f18, f19, f20, f21, f22, f23⟩⟩
              · rintro D ρ wx hD hd hdc hf ⟨hs, f0, f1, f2, f3, f4, f5, f6, f7, f8, f9, f10, f11, f12, f13, f14, f15, f16, f17, f18, f19, f20, f21, f22, f23⟩
                have r0 : ρ 0 = .slice a N c := outD hf 0 rfl
                exact .inl ⟨rfl, L_move (V := .slice a N c) r0 ⟨hs, f0, f1, f2, f3, f4, f5, f6, f7, fun _ => rfl, f9, f10, f11, f12, f13, f14, f15, f16, f17, f18, f19, f20, f21, f22, f23⟩⟩
              · rintro D ρ wx hD hd hdc hf ⟨hs, f0, f1, f2, f3, f4, f5, f6, f7, f8, f9, f10, f11, f12, f13, f14, f15, f16, f17, f18, f19, f20, f21, f22, f23⟩
                have r3 : ρ 3 = .int .i64 ((first : Nat) : Int) := outD hf 3 rfl
                exact .inl ⟨rfl, L_move (V := .int .i64 ((first : Nat) : Int)) r3 ⟨hs, f0, f1, f2, f3, f4, f5, f6, f7, f8, fun _ => rfl, f10, f11, f12, f13, f14, f15, f16, f17, f18, f19, f20, f21, f22, f23⟩⟩
              · rintro D ρ wx hD hd hdc hf ⟨hs, f0, f1, f2, f3, f4, f5, f6, f7, f8, f9, f10, f11, f12, f13, f14, f15, f16, f17, f18, f19, f20, f21, f22, f23⟩
                have r9 : ρ 9 = .int .i64 (((2 * r) + 1 : Nat) : Int) := outD hf 9 rfl
                exact .inl ⟨rfl, L_move (V := .int .i64 (((2 * r) + 1 : Nat) : Int)) r9 ⟨hs, f0, f1, f2, f3, f4, f5, f6, f7, f8, f9, fun _ => rfl, f11, f12, f13, f14, f15, f16, f17, f18, f19, f20, f21, f22, f23⟩⟩
              · rintro D ρ wx hD hd hdc hf ⟨hs, f0, f1, f2, f3, f4, f5, f6, f7, f8, f9, f10, f11, f12, f13, f14, f15, f16, f17, f18, f19, f20, f21, f22, f23⟩
                have g9 := f9 (doneD hd 9 rfl)
                have g10 := f10 (doneD hd 10 rfl)
                exact .inl ⟨rfl, L_add (a := ((first : Nat) : Int)) (b := (((2 * r) + 1 : Nat) : Int)) (c := ((first + ((2 * r) + 1) : Nat) : Int)) g9 g10 (nat_i64 (by omega) (by omega)) ⟨hs, f0, f1, f2, f3, f4, f5, f6, f7, f8, f9, f10, fun _ => rfl, f12, f13, f14, f15, f16, f17, f18, f19, f20, f21, f22, f23⟩⟩
              · rintro D ρ wx hD hd hdc hf ⟨hs, f0, f1, f2, f3, f4, f5, f6, f7, f8, f9, f10, f11, f12, f13, f14, f15, f16, f17, f18, f19, f20, f21, f22, f23⟩
                have g8 := f8 (doneD hd 8 rfl)
                have g11 := f11 (doneD hd 11 rfl)
                have d21 : D 21 = false := (notYetD hdc (j := 21) rfl rfl hD)
                have d23 : D 23 = false := (notYetD hdc (j := 23) rfl rfl hD)
                have hs0 := hs; rw [d21, d23] at hs0
                exact .inl ⟨rfl, L_ixR UD_72 S1_57.1 (hs0.rd 0 rfl) g8 g11 (by omega) (by simp only [List.length_map, Array.length_toList, Array.size_setIfInBounds, Go.Sort.size_swp]; omega) ⟨hs, f0, f1, f2, f3, f4, f5, f6, f7, f8, f9, f10, f11, fun _ => rfl, f13, f14, f15, f16, f17, f18, f19, f20, f21, f22, f23⟩⟩
              · rintro D ρ wx hD hd hdc hf ⟨hs, f0, f1, f2, f3, f4, f5, f6, f7, f8, f9, f10, f11, f12, f13, f14, f15, f16, f17, f18, f19, f20, f21, f22, f23⟩
                have g12 := f12 (doneD hd 12 rfl)
                have d21 : D 21 = false := (notYetD hdc (j := 21) rfl rfl hD)
                have d23 : D 23 = false := (notYetD hdc (j := 23) rfl rfl hD)
                have hs0 := hs; rw [d21, d23] at hs0
                exact .inl ⟨rfl, L_ldR (j := 0) (V := .int .u16 (d1[first + ((2 * r) + 1)]!)) (first + ((2 * r) + 1)) S1_57 (hs0.rd 0 rfl) (da_at (by omega)) rfl g12 (by omega) ⟨hs, f0, f1, f2, f3, f4, f5, f6, f7, f8, f9, f10, f11, f12, fun _ => rfl, f14, f15, f16, f17, f18, f19, f20, f21, f22, f23⟩⟩
              · rintro D ρ wx hD hd hdc hf ⟨hs, f0, f1, f2, f3, f4, f5, f6, f7, f8, f9, f10, f11, f12, f13, f14, f15, f16, f17, f18, f19, f20, f21, f22, f23⟩
                have r0 : ρ 0 = .slice a N c := outD hf 0 rfl
                exact .inl ⟨rfl, L_move (V := .slice a N c) r0 ⟨hs, f0, f1, f2, f3, f4, f5, f6, f7, f8, f9, f10, f11, f12, f13, fun _ => rfl, f15, f16, f17, f18, f19, f20, f21, f22, f23⟩⟩
              · rintro D ρ wx hD hd hdc hf ⟨hs, f0, f1, f2, f3, f4, f5, f6, f7, f8, f9, f10, f11, f12, f13, f14, f15, f16, f17, f18, f19, f20, f21, f22, f23⟩
                have r3 : ρ 3 = .int .i64 ((first : Nat) : Int) := outD hf 3 rfl
                exact .inl ⟨rfl, L_move (V := .int .i64 ((first : Nat) : Int)) r3 ⟨hs, f0, f1, f2, f3, f4, f5, f6, f7, f8, f9, f10, f11, f12, f13, f14, fun _ => rfl, f16, f17, f18, f19, f20, f21, f22, f23⟩⟩
              · rintro D ρ wx hD hd hdc hf ⟨hs, f0, f1, f2, f3, f4, f5, f6, f7, f8, f9, f10, f11, f12, f13, f14, f15, f16, f17, f18, f19, f20, f21, f22, f23⟩
                have r8 : ρ 8 = .int .i64 ((r : Nat) : Int) := outD hf 8 rfl
                exact .inl ⟨rfl, L_move (V := .int .i64 ((r : Nat) : Int)) r8 ⟨hs, f0, f1, f2, f3, f4, f5, f6, f7, f8, f9, f10, f11, f12, f13, f14, f15, fun _ => rfl, f17, f18, f19, f20, f21, f22, f23⟩⟩
              · rintro D ρ wx hD hd hdc hf ⟨hs, f0, f1, f2, f3, f4, f5, f6, f7, f8, f9, f10, f11, f12, f13, f14, f15, f16, f17, f18, f19, f20, f21, f22, f23⟩
                have g15 := f15 (doneD hd 15 rfl)
                have g16 := f16 (doneD hd 16 rfl)
                exact .inl ⟨rfl, L_add (a := ((first : Nat) : Int)) (b := ((r : Nat) : Int)) (c := ((first + r : Nat) : Int)) g15 g16 (nat_i64 (by omega) (by omega)) ⟨hs, f0, f1, f2, f3, f4, f5, f6, f7, f8, f9, f10, f11, f12, f13, f14, f15, f16, fun _ => rfl, f18, f19, f20, f21, f22, f23⟩⟩
              · rintro D ρ wx hD hd hdc hf ⟨hs, f0, f1, f2, f3, f4, f5, f6, f7, f8, f9, f10, f11, f12, f13, f14, f15, f16, f17, f18, f19, f20, f21, f22, f23⟩
                have g14 := f14 (doneD hd 14 rfl)
                have g17 := f17 (doneD hd 17 rfl)
                have d21 : D 21 = false := (notYetD hdc (j := 21) rfl rfl (notYetD hdc (j := 19) rfl rfl hD))
                have d23 : D 23 = false := (notYetD hdc (j := 23) rfl rfl hD)
                have hs0 := hs; rw [d21, d23] at hs0
                exact .inl ⟨rfl, L_ixR UD_72 S1_57.1 (hs0.rd 0 rfl) g14 g17 (by omega) (by simp only [List.length_map, Array.length_toList, Array.size_setIfInBounds, Go.Sort.size_swp]; omega) ⟨hs, f0, f1, f2, f3, f4, f5, f6, f7, f8, f9, f10, f11, f12, f13, f14, f15, f16, f17, fun _ => rfl, f19, f20, f21, f22, f23⟩⟩
              · rintro D ρ wx hD hd hdc hf ⟨hs, f0, f1, f2, f3, f4, f5, f6, f7, f8, f9, f10, f11, f12, f13, f14, f15, f16, f17, f18, f19, f20, f21, f22, f23⟩
                have g18 := f18 (doneD hd 18 rfl)
                have d21 : D 21 = false := (notYetD hdc (j := 21) rfl rfl hD)
                have d23 : D 23 = false := (notYetD hdc (j := 23) rfl rfl hD)
                have hs0 := hs; rw [d21, d23] at hs0
                exact .inl ⟨rfl, L_ldR (j := 0) (V := .int .u16 (d1[first + r]!)) (first + r) S1_57 (hs0.rd 0 rfl) (da_at (by omega)) rfl g18 (by omega) ⟨hs, f0, f1, f2, f3, f4, f5, f6, f7, f8, f9, f10, f11, f12, f13, f14, f15, f16, f17, f18, fun _ => rfl, f20, f21, f22, f23⟩⟩
              · rintro D ρ wx hD hd hdc hf ⟨hs, f0, f1, f2, f3, f4, f5, f6, f7, f8, f9, f10, f11, f12, f13, f14, f15, f16, f17, f18, f19, f20, f21, f22, f23⟩
                have g0 := f0 (doneD hd 0 rfl)
                have g3 := f3 (doneD hd 3 rfl)
                have d21 : D 21 = false := (notYetD hdc (j := 21) rfl rfl hD)
                have d23 : D 23 = false := (notYetD hdc (j := 23) rfl rfl hD)
                have hs0 := hs; rw [d21, d23] at hs0
                exact .inl ⟨rfl, L_ixR UD_72 S1_57.1 (hs0.rd 0 rfl) g0 g3 (by omega) (by simp only [List.length_map, Array.length_toList, Array.size_setIfInBounds, Go.Sort.size_swp]; omega) ⟨hs, f0, f1, f2, f3, f4, f5, f6, f7, f8, f9, f10, f11, f12, f13, f14, f15, f16, f17, f18, f19, fun _ => rfl, f21, f22, f23⟩⟩
              · rintro D ρ wx hD hd hdc hf ⟨hs, f0, f1, f2, f3, f4, f5, f6, f7, f8, f9, f10, f11, f12, f13, f14, f15, f16, f17, f18, f19, f20, f21, f22, f23⟩
                have g13 := f13 (doneD hd 13 rfl)
                have g20 := f20 (doneD hd 20 rfl)
                have d21 : D 21 = false := hD
                have d23 : D 23 = false := (notYetD hdc (j := 23) rfl rfl hD)
                have hs0 := hs; rw [d21, d23] at hs0
                refine .inl ⟨rfl, L_stA (z := d1[first + ((2 * r) + 1)]!) (first + r) S1_57 hs0 0 rfl g20 (by omega) (by first | omega | (simp only [Array.size_setIfInBounds, Go.Sort.size_swp]; omega)) g13 rfl rfl fun _ hs0 => ⟨?_, f0, f1, f2, f3, f4, f5, f6, f7, f8, f9, f10, f11, f12, f13, f14, f15, f16, f17, f18, f19, f20, trivial, f22, f23⟩⟩
                rw [show Go.Vx.mark D 21 23 = false from d23]
                exact hs0
              · rintro D ρ wx hD hd hdc hf ⟨hs, f0, f1, f2, f3, f4, f5, f6, f7, f8, f9, f10, f11, f12, f13, f14, f15, f16, f17, f18, f19, f20, f21, f22, f23⟩
                have g4 := f4 (doneD hd 4 rfl)
                have g7 := f7 (doneD hd 7 rfl)
                have d21 : D 21 = true := doneD hd 21 rfl
                have d23 : D 23 = false := (notYetD hdc (j := 23) rfl rfl hD)
                have hs0 := hs; rw [d21, d23] at hs0
                exact .inl ⟨rfl, L_ixR UD_72 S1_57.1 (hs0.rd 0 rfl) g4 g7 (by omega) (by simp only [List.length_map, Array.length_toList, Array.size_setIfInBounds, Go.Sort.size_swp]; omega) ⟨hs, f0, f1, f2, f3, f4, f5, f6, f7, f8, f9, f10, f11, f12, f13, f14, f15, f16, f17, f18, f19, f20, f21, fun _ => rfl, f23⟩⟩
              · rintro D ρ wx hD hd hdc hf ⟨hs, f0, f1, f2, f3, f4, f5, f6, f7, f8, f9, f10, f11, f12, f13, f14, f15, f16, f17, f18, f19, f20, f21, f22, f23⟩
                have g19 := f19 (doneD hd 19 rfl)
                have g22 := f22 (doneD hd 22 rfl)
                have d21 : D 21 = true := doneD hd 21 rfl
                have d23 : D 23 = false := hD
                have hs0 := hs; rw [d21, d23] at hs0
                refine .inl ⟨rfl, L_stA (z := d1[first + r]!) (first + ((2 * r) + 1)) S1_57 hs0 0 rfl g22 (by omega) (by first | omega | (simp only [Array.size_setIfInBounds, Go.Sort.size_swp]; omega)) g19 rfl rfl fun _ hs0 => ⟨?_, f0, f1, f2, f3, f4, f5, f6, f7, f8, f9, f10, f11, f12, f13, f14, f15, f16, f17, f18, f19, f20, f21, f22, trivial⟩⟩
                rw [show Go.Vx.mark D 23 21 = true from d21]
                exact hs0
              · rintro ρ1 w1 D hD hf ⟨hs, f0, f1, f2, f3, f4, f5, f6, f7, f8, f9, f10, f11, f12, f13, f14, f15, f16, f17, f18, f19, f20, f21, f22, f23⟩
                rw [hD 21 rfl, hD 23 rfl] at hs
                clear f0 f1 f2 f3 f4 f5 f6 f7 f8 f9 f10 f11 f12 f13 f14 f15 f16 f17 f18 f19 f20 f21 f22 f23
                obtain ⟨ρ2, hρ⟩ : ∃ ρ2, ρ1 = mix [53, 54, 55, 56, 57, 58, 59, 60, 61, 62, 63, 64, 65, 66, 67, 68, 69, 70, 71, 72, 73, 74] ρ2 _ := ⟨ρ1, mix_of (ds := [53, 54, 55, 56, 57, 58, 59, 60, 61, 62, 63, 64, 65, 66, 67, 68, 69, 70, 71, 72, 73, 74]) hf⟩
                clear hf hD
                subst hρ
                refine W_region ?_
                refine RW_op (L_move (V := .int .i64 (((2 * r) + 1 : Nat) : Int)) rfl ?_)
                refine RW_op (L_assign (V := .int .i64 (((2 * r) + 1 : Nat) : Int)) rfl ?_)
                refine RW_nil ?_
                refine ⟨_, ?_, _, (2 * r) + 1, ((d1.setIfInBounds (first + r) (d1[first + ((2 * r) + 1)]!)).setIfInBounds (first + ((2 * r) + 1)) (d1[first + r]!)), upd_of (mix_of (ds := [8, 9, 11, 12, 13, 14, 15, 16, 17, 18, 19, 20, 21, 22, 23, 24, 25, 26, 27, 28, 29, 30, 31, 32, 33, 34, 35, 36, 37, 38, 39, 40, 41, 42, 43, 44, 45, 46, 47, 48, 49, 50, 51, 52, 53, 54, 55, 56, 57, 58, 59, 60, 61, 62, 63, 64, 65, 66, 67, 68, 69, 70, 71, 72, 73, 74, 75]) (by repeat (first | exact Agr.refl _ _ | refine Agr.upd ?_ rfl | refine Agr.mix ?_ rfl))) rfl, (by omega), (by simp only [Array.size_setIfInBounds]; exact hz1), (by rw [← hev, sd_1 c2 c5, if_pos c14]; rfl), rfl, hs.take 1⟩
                omega
theorem rev_yes {i j : Nat} {d : Array Int} (h : ((i : Nat) : Int) < ((j : Nat) : Int)) : Sort.reverseLoop i j d = Sort.reverseLoop (i + 1) (j - 1) (Sort.swp d i j) := by rw [Sort.reverseLoop, if_pos (by omega)]
theorem rev_no {i j : Nat} {d : Array Int} (h : ¬ ((i : Nat) : Int) < ((j : Nat) : Int)) : Sort.reverseLoop i j d = d := by rw [Sort.reverseLoop, if_neg (by omega)]
set_option maxRecDepth 20000 in
set_option maxHeartbeats 4000000 in
theorem rev_ok (w : World) (S : Nat → Prop) (a : Option Addr) (N c : Nat) (d : Array Int) (hsz : d.size = N) (hN : N ≤ 2305843009213693951) (lo hi : Nat) (h1 : lo < hi) (h2 : hi ≤ N) (hR : (row (.slice a N c) (d.toList.map (ic .u16)) 57 1).holds w S) (hlt : ∀ x, S x → x < w.heap.size) : Calls Try.prog 106 #[.slice a N c, .int .i64 ((lo : Nat) : Int), .int .i64 ((hi : Nat) : Int)] w (fun e w' => ∃ x : Unit, e = .returned (.tuple #[]) ∧ Own w S w' [row (.slice a N c) ((Sort.reverseRange d lo hi).toList.map (ic .u16)) 57 1] ∧ (Sort.reverseRange d lo hi).size = N) := by
  refine calls_of_Wn (n := 32) Try.func106 rfl Try.ntmps106 rfl ?_
  have hs := Own.lent hR hlt
  refine W_seq ?_
  refine W_region ?_
  refine RW_op (L_move (V := .int .i64 ((lo : Nat) : Int)) rfl ?_)
  refine RW_op (L_assign (V := .int .i64 ((lo : Nat) : Int)) rfl ?_)
  refine RW_nil ?_
  refine W_seq ?_
  refine W_region ?_
  refine RW_op (L_move (V := .int .i64 ((hi : Nat) : Int)) rfl ?_)
  refine RW_op (L_sub (a := ((hi : Nat) : Int)) (b := 1) (c := ((hi - 1 : Nat) : Int)) rfl rfl (nat_i64 (by omega) (by omega)) ?_)
  refine RW_op (L_assign (V := .int .i64 ((hi - 1 : Nat) : Int)) rfl ?_)
  refine RW_nil ?_
  refine W_block ?_
  refine W_loopI (fun ρ m ρ' w' => ∃ (ρo : Env) (i : Nat) (j : Nat) (d1 : Array Int), ρ' = upd (upd (mix [6, 7, 11, 12, 13, 14, 15, 16, 17, 18, 19, 20, 21, 22, 23, 24, 25, 26, 27, 28, 29, 30, 31] ρo ρ) 6 (.int .i64 ((i : Nat) : Int))) 7 (.int .i64 ((j : Nat) : Int)) ∧ (lo ≤ i) ∧ (j < hi) ∧ (d1.size = N) ∧ (Sort.reverseLoop i j d1 = Sort.reverseRange d lo hi) ∧ m = j - i ∧ Own w S w' [row (.slice a N c) (d1.toList.map (ic .u16)) 57 1]) ?_ ?_
  · exact ⟨_, _, lo, hi - 1, d, upd_of (upd_of (mix_of (ds := [6, 7, 11, 12, 13, 14, 15, 16, 17, 18, 19, 20, 21, 22, 23, 24, 25, 26, 27, 28, 29, 30, 31]) (Agr.refl _ _)) rfl) rfl, (Nat.le_refl _), (by omega), hsz, rfl, rfl, hs⟩
  · rintro m ρ' w1 ⟨ρo, i, j, d1, rfl, hi0, hj, hz1, hev, rfl, hs⟩
    refine W_seq ?_
    refine W_seq ?_
    refine W_region ?_
    refine RW_op (L_move (V := .int .i64 ((i : Nat) : Int)) rfl ?_)
    refine RW_op (L_move (V := .int .i64 ((j : Nat) : Int)) rfl ?_)
    refine RW_op (L_lss rfl rfl ?_)
    refine RW_nil ?_
    refine W_cond (t := decide (((i : Nat) : Int) < ((j : Nat) : Int))) rfl (fun c2 => ?_) (fun c2 => ?_)
    ·
      replace c2 := of_decide_eq_true c2
      refine W_skip ?_
      refine W_block ?_
      refine W_seq ?_
      replace hs := hs.drew
      refine W_draw2 HM [14, 15, 16, 17, 18, 19, 20, 21, 22, 23, 24, 25, 26, 27] [[], [], [], [], [], [], [4, 5], [6], [], [], [8, 9], [10], [0, 1, 0, 1, 4, 5, 6, 7, 11], [12, 7, 0, 1, 4, 5, 6, 7, 11], [2, 3, 0, 1, 2, 3, 4, 5, 6, 7, 8, 9, 10, 11, 12, 13], [14, 11, 13, 0, 1, 2, 3, 4, 5, 6, 7, 8, 9, 10, 11, 12, 13]] (fun D ρ wx => Own w S wx [cond (D 15) (row (.slice a N c) ((((d1.setIfInBounds i (d1[j]!)).setIfInBounds j (d1[i]!)).toList).map (ic .u16)) 57 1) (cond (D 13) (row (.slice a N c) (((d1.setIfInBounds i (d1[j]!)).toList).map (ic .u16)) 57 1) (row (.slice a N c) (d1.toList.map (ic .u16)) 57 1))] ∧ (D 0 = true → ρ 14 = .slice a N c) ∧ (D 1 = true → ρ 15 = .int .i64 ((i : Nat) : Int)) ∧ (D 2 = true → ρ 16 = .slice a N c) ∧ (D 3 = true → ρ 17 = .int .i64 ((j : Nat) : Int)) ∧ (D 4 = true → ρ 18 = .slice a N c) ∧ (D 5 = true → ρ 19 = .int .i64 ((j : Nat) : Int)) ∧ (D 6 = true → ρ 20 = .pointer (some ⟨bkS (.slice a N c), ofS (.slice a N c) + ((j : Nat) : Int).toNat * 1, none⟩)) ∧ (D 7 = true → ρ 21 = .int .u16 (d1[j]!)) ∧ (D 8 = true → ρ 22 = .slice a N c) ∧ (D 9 = true → ρ 23 = .int .i64 ((i : Nat) : Int)) ∧ (D 10 = true → ρ 24 = .pointer (some ⟨bkS (.slice a N c), ofS (.slice a N c) + ((i : Nat) : Int).toNat * 1, none⟩)) ∧ (D 11 = true → ρ 25 = .int .u16 (d1[i]!)) ∧ (D 12 = true → ρ 26 = .pointer (some ⟨bkS (.slice a N c), ofS (.slice a N c) + ((i : Nat) : Int).toNat * 1, none⟩)) ∧ (True) ∧ (D 14 = true → ρ 27 = .pointer (some ⟨bkS (.slice a N c), ofS (.slice a N c) + ((j : Nat) : Int).toNat * 1, none⟩)) ∧ (True)) rfl rfl rfl ⟨hs, fun h => absurd h Bool.false_ne_true, fun h => absurd h Bool.false_ne_true, fun h => absurd h Bool.false_ne_true, fun h => absurd h Bool.false_ne_true, fun h => absurd h Bool.false_ne_true, fun h => absurd h Bool.false_ne_true, fun h => absurd h Bool.false_ne_true, fun h => absurd h Bool.false_ne_true, fun h => absurd h Bool.false_ne_true, fun h => absurd h Bool.false_ne_true, fun h => absurd h Bool.false_ne_true, fun h => absurd h Bool.false_ne_true, fun h => absurd h Bool.false_ne_true, trivial, fun h => absurd h Bool.false_ne_true, trivial⟩ ⟨?_, ?_, ?_, ?_, ?_, ?_, ?_, ?_, ?_, ?_, ?_, ?_, ?_, ?_, ?_, ?_, trivial⟩ ?_
      · rintro D ρ wx hD hd hdc hf ⟨hs, f0, f1, f2, f3, f4, f5, f6, f7, f8, f9, f10, f11, f12, f13, f14, f15⟩
        have r0 : ρ 0 = .slice a N c := outD hf 0 rfl
        exact .inl ⟨rfl, L_move (V := .slice a N c) r0 ⟨hs, fun _ => rfl, f1, f2, f3, f4, f5, f6, f7, f8, f9, f10, f11, f12, f13, f14, f15⟩⟩
      · rintro D ρ wx hD hd hdc hf ⟨hs, f0, f1, f2, f3, f4, f5, f6, f7, f8, f9, f10, f11, f12, f13, f14, f15⟩
        have r6 : ρ 6 = .int .i64 ((i : Nat) : Int) := outD hf 6 rfl
        exact .inl ⟨rfl, L_move (V := .int .i64 ((i : Nat) : Int)) r6 ⟨hs, f0, fun _ => rfl, f2, f3, f4, f5, f6, f7, f8, f9, f10, f11, f12, f13, f14, f15⟩⟩
      · rintro D ρ wx hD hd hdc hf ⟨hs, f0, f1, f2, f3, f4, f5, f6, f7, f8, f9, f10, f11, f12, f13, f14, f15⟩
        have r0 : ρ 0 = .slice a N c := outD hf 0 rfl
        exact .inl ⟨rfl, L_move (V := .slice a N c) r0 ⟨hs, f0, f1, fun _ => rfl, f3, f4, f5, f6, f7, f8, f9, f10, f11, f12, f13, f14, f15⟩⟩
      · rintro D ρ wx hD hd hdc hf ⟨hs, f0, f1, f2, f3, f4, f5, f6, f7, f8, f9, f10, f11, f12, f13, f14, f15⟩
        have r7 : ρ 7 = .int .i64 ((j : Nat) : Int) := outD hf 7 rfl
        exact .inl ⟨rfl, L_move (V := .int .i64 ((j : Nat) : Int)) r7 ⟨hs, f0, f1, f2, fun _ => rfl, f4, f5, f6, f7, f8, f9, f10, f11, f12, f13, f14, f15⟩⟩
      · rintro D ρ wx hD hd hdc hf ⟨hs, f0, f1, f2, f3, f4, f5, f6, f7, f8, f9, f10, f11, f12, f13, f14, f15⟩
        have r0 : ρ 0 = .slice a N c := outD hf 0 rfl
        exact .inl ⟨rfl, L_move (V := .slice a N c) r0 ⟨hs, f0, f1, f2, f3, fun _ => rfl, f5, f6, f7, f8, f9, f10, f11, f12, f13, f14, f15⟩⟩
      · rintro D ρ wx hD hd hdc hf ⟨hs, f0, f1, f2, f3, f4, f5, f6, f7, f8, f9, f10, f11, f12, f13, f14, f15⟩
        have r7 : ρ 7 = .int .i64 ((j : Nat) : Int) := outD hf 7 rfl
        exact .inl ⟨rfl, L_move (V := .int .i64 ((j : Nat) : Int)) r7 ⟨hs, f0, f1, f2, f3, f4, fun _ => rfl, f6, f7, f8, f9, f10, f11, f12, f13, f14, f15⟩⟩
      · rintro D ρ wx hD hd hdc hf ⟨hs, f0, f1, f2, f3, f4, f5, f6, f7, f8, f9, f10, f11, f12, f13, f14, f15⟩
        have g4 := f4 (doneD hd 4 rfl)
        have g5 := f5 (doneD hd 5 rfl)
        have d13 : D 13 = false := (notYetD hdc (j := 13) rfl rfl hD)
        have d15 : D 15 = false := (notYetD hdc (j := 15) rfl rfl hD)
        have hs0 := hs; rw [d13, d15] at hs0
        exact .inl ⟨rfl, L_ixR UD_72 S1_57.1 (hs0.rd 0 rfl) g4 g5 (by omega) (by simp only [List.length_map, Array.length_toList, Array.size_setIfInBounds, Go.Sort.size_swp]; omega) ⟨hs, f0, f1, f2, f3, f4, f5, fun _ => rfl, f7, f8, f9, f10, f11, f12, f13, f14, f15⟩⟩
      · rintro D ρ wx hD hd hdc hf ⟨hs, f0, f1, f2, f3, f4, f5, f6, f7, f8, f9, f10, f11, f12, f13, f14, f15⟩
        have g6 := f6 (doneD hd 6 rfl)
        have d13 : D 13 = false := (notYetD hdc (j := 13) rfl rfl hD)
        have d15 : D 15 = false := (notYetD hdc (j := 15) rfl rfl hD)
        have hs0 := hs; rw [d13, d15] at hs0
        exact .inl ⟨rfl, L_ldR (j := 0) (V := .int .u16 (d1[j]!)) j S1_57 (hs0.rd 0 rfl) (da_at (by omega)) rfl g6 (by omega) ⟨hs, f0, f1, f2, f3, f4, f5, f6, fun _ => rfl, f8, f9, f10, f11, f12, f13, f14, f15⟩⟩
      · rintro D ρ wx hD hd hdc hf ⟨hs, f0, f1, f2, f3, f4, f5, f6, f7, f8, f9, f10, f11, f12, f13, f14, f15⟩
        have r0 : ρ 0 = .slice a N c := outD hf 0 rfl
        exact .inl ⟨rfl, L_move (V := .slice a N c) r0 ⟨hs, f0, f1, f2, f3, f4, f5, f6, f7, fun _ => rfl, f9, f10, f11, f12, f13, f14, f15⟩⟩
      · rintro D ρ wx hD hd hdc hf ⟨hs, f0, f1, f2, f3, f4, f5, f6, f7, f8, f9, f10, f11, f12, f13, f14, f15⟩
        have r6 : ρ 6 = .int .i64 ((i : Nat) : Int) := outD hf 6 rfl
        exact .inl ⟨rfl, L_move (V := .int .i64 ((i : Nat) : Int)) r6 ⟨hs, f0, f1, f2, f3, f4, f5, f6, f7, f8, fun _ => rfl, f10, f11, f12, f13, f14, f15⟩⟩
      · rintro D ρ wx hD hd hdc hf ⟨hs, f0, f1, f2, f3, f4, f5, f6, f7, f8, f9, f10, f11, f12, f13, f14, f15⟩
        have g8 := f8 (doneD hd 8 rfl)
        have g9 := f9 (doneD hd 9 rfl)
        have d13 : D 13 = false := (notYetD hdc (j := 13) rfl rfl (notYetD hdc (j := 11) rfl rfl hD))
        have d15 : D 15 = false := (notYetD hdc (j := 15) rfl rfl hD)
        have hs0 := hs; rw [d13, d15] at hs0
        exact .inl ⟨rfl, L_ixR UD_72 S1_57.1 (hs0.rd 0 rfl) g8 g9 (by omega) (by simp only [List.length_map, Array.length_toList, Array.size_setIfInBounds, Go.Sort.size_swp]; omega) ⟨hs, f0, f1, f2, f3, f4, f5, f6, f7, f8, f9, fun _ => rfl, f11, f12, f13, f14, f15⟩⟩
      · rintro D ρ wx hD hd hdc hf ⟨hs, f0, f1, f2, f3, f4, f5, f6, f7, f8, f9, f10, f11, f12, f13, f14, f15⟩
        have g10 := f10 (doneD hd 10 rfl)
        have d13 : D 13 = false := (notYetD hdc (j := 13) rfl rfl hD)
        have d15 : D 15 = false := (notYetD hdc (j := 15) rfl rfl hD)
        have hs0 := hs; rw [d13, d15] at hs0
        exact .inl ⟨rfl, L_ldR (j := 0) (V := .int .u16 (d1[i]!)) i S1_57 (hs0.rd 0 rfl) (da_at (by omega)) rfl g10 (by omega) ⟨hs, f0, f1, f2, f3, f4, f5, f6, f7, f8, f9, f10, fun _ => rfl, f12, f13, f14, f15⟩⟩
      · rintro D ρ wx hD hd hdc hf ⟨hs, f0, f1, f2, f3, f4, f5, f6, f7, f8, f9, f10, f11, f12, f13, f14, f15⟩
        have g0 := f0 (doneD hd 0 rfl)
        have g1 := f1 (doneD hd 1 rfl)
        have d13 : D 13 = false := (notYetD hdc (j := 13) rfl rfl hD)
        have d15 : D 15 = false := (notYetD hdc (j := 15) rfl rfl hD)
        have hs0 := hs; rw [d13, d15] at hs0
        exact .inl ⟨rfl, L_ixR UD_72 S1_57.1 (hs0.rd 0 rfl) g0 g1 (by omega) (by simp only [List.length_map, Array.length_toList, Array.size_setIfInBounds, Go.Sort.size_swp]; omega) ⟨hs, f0, f1, f2, f3, f4, f5, f6, f7, f8, f9, f10, f11, fun _ => rfl, f13, f14, f15⟩⟩
      · rintro D ρ wx hD hd hdc hf ⟨hs, f0, f1, f2, f3, f4, f5, f6, f7, f8, f9, f10, f11, f12, f13, f14, f15⟩
        have g7 := f7 (doneD hd 7 rfl)
        have g12 := f12 (doneD hd 12 rfl)
        have d13 : D 13 = false := hD
        have d15 : D 15 = false := (notYetD hdc (j := 15) rfl rfl hD)
        have hs0 := hs; rw [d13, d15] at hs0
        refine .inl ⟨rfl, L_stA (z := d1[j]!) i S1_57 hs0 0 rfl g12 (by omega) (by first | omega | (simp only [Array.size_setIfInBounds, Go.Sort.size_swp]; omega)) g7 rfl rfl fun _ hs0 => ⟨?_, f0, f1, f2, f3, f4, f5, f6, f7, f8, f9, f10, f11, f12, trivial, f14, f15⟩⟩
        rw [show Go.Vx.mark D 13 15 = false from d15]
        exact hs0
      · rintro D ρ wx hD hd hdc hf ⟨hs, f0, f1, f2, f3, f4, f5, f6, f7, f8, f9, f10, f11, f12, f13, f14, f15⟩
        have g2 := f2 (doneD hd 2 rfl)
        have g3 := f3 (doneD hd 3 rfl)
        have d13 : D 13 = true := doneD hd 13 rfl
        have d15 : D 15 = false := (notYetD hdc (j := 15) rfl rfl hD)
        have hs0 := hs; rw [d13, d15] at hs0
        exact .inl ⟨rfl, L_ixR UD_72 S1_57.1 (hs0.rd 0 rfl) g2 g3 (by omega) (by simp only [List.length_map, Array.length_toList, Array.size_setIfInBounds, Go.Sort.size_swp]; omega) ⟨hs, f0, f1, f2, f3, f4, f5, f6, f7, f8, f9, f10, f11, f12, f13, fun _ => rfl, f15⟩⟩
      · rintro D ρ wx hD hd hdc hf ⟨hs, f0, f1, f2, f3, f4, f5, f6, f7, f8, f9, f10, f11, f12, f13, f14, f15⟩
        have g11 := f11 (doneD hd 11 rfl)
        have g14 := f14 (doneD hd 14 rfl)
        have d13 : D 13 = true := doneD hd 13 rfl
        have d15 : D 15 = false := hD
        have hs0 := hs; rw [d13, d15] at hs0
        refine .inl ⟨rfl, L_stA (z := d1[i]!) j S1_57 hs0 0 rfl g14 (by omega) (by first | omega | (simp only [Array.size_setIfInBounds, Go.Sort.size_swp]; omega)) g11 rfl rfl fun _ hs0 => ⟨?_, f0, f1, f2, f3, f4, f5, f6, f7, f8, f9, f10, f11, f12, f13, f14, trivial⟩⟩
        rw [show Go.Vx.mark D 15 13 = true from d13]
        exact hs0
      · rintro ρ1 w1 D hD hf ⟨hs, f0, f1, f2, f3, f4, f5, f6, f7, f8, f9, f10, f11, f12, f13, f14, f15⟩
        rw [hD 13 rfl, hD 15 rfl] at hs
        clear f0 f1 f2 f3 f4 f5 f6 f7 f8 f9 f10 f11 f12 f13 f14 f15
        obtain ⟨ρ2, hρ⟩ : ∃ ρ2, ρ1 = mix [14, 15, 16, 17, 18, 19, 20, 21, 22, 23, 24, 25, 26, 27] ρ2 _ := ⟨ρ1, mix_of (ds := [14, 15, 16, 17, 18, 19, 20, 21, 22, 23, 24, 25, 26, 27]) hf⟩
        clear hf hD
        subst hρ
        refine W_seq ?_
        refine W_region ?_
        refine RW_op (L_move (V := .int .i64 ((i : Nat) : Int)) rfl ?_)
        refine RW_op (L_add (a := ((i : Nat) : Int)) (b := 1) (c := ((i + 1 : Nat) : Int)) rfl rfl (nat_i64 (by omega) (by omega)) ?_)
        refine RW_op (L_assign (V := .int .i64 ((i + 1 : Nat) : Int)) rfl ?_)
        refine RW_nil ?_
        refine W_region ?_
        refine RW_op (L_move (V := .int .i64 ((j : Nat) : Int)) rfl ?_)
        refine RW_op (L_sub (a := ((j : Nat) : Int)) (b := 1) (c := ((j - 1 : Nat) : Int)) rfl rfl (nat_i64 (by omega) (by omega)) ?_)
        refine RW_op (L_assign (V := .int .i64 ((j - 1 : Nat) : Int)) rfl ?_)
        refine RW_nil ?_
        refine ⟨_, ?_, _, i + 1, j - 1, ((d1.setIfInBounds i (d1[j]!)).setIfInBounds j (d1[i]!)), upd_of (upd_of (mix_of (ds := [6, 7, 11, 12, 13, 14, 15, 16, 17, 18, 19, 20, 21, 22, 23, 24, 25, 26, 27, 28, 29, 30, 31]) (by repeat (first | exact Agr.refl _ _ | refine Agr.upd ?_ rfl | refine Agr.mix ?_ rfl))) rfl) rfl, (by omega), (by omega), (by simp only [Array.size_setIfInBounds]; exact hz1), (by rw [← hev, rev_yes (d := d1) c2]; rfl), rfl, hs.take 1⟩
        omega
    ·
      replace c2 := of_decide_eq_false c2
      refine W_exit ?_
      refine ⟨_, res_none Try.results106, ?_⟩
      have hX : d1 = Sort.reverseRange d lo hi := by rw [← hev, rev_no c2]
      exact ⟨(), rfl, hX ▸ hs.take 1, hX ▸ (by first | assumption | (simp only [Array.size_setIfInBounds, Go.Sort.size_swp]; omega))⟩
end Ts
end Go.Proofs
namespace Go.Proofs
open Go Go.Vx Go.RowKit
namespace Ts
theorem EN_116 : En Try.prog 116 := Try.call116
theorem hb_step {n first k : Nat} {d : Array Int} (h : 1 ≤ k) : Sort.heapBuild Sort.ltInt n first k d = Sort.heapBuild Sort.ltInt n first (k - 1) (Sort.siftDown Sort.ltInt n first (k - 1) d) := by
  obtain ⟨i, rfl⟩ : ∃ i, k = i + 1 := ⟨k - 1, by omega⟩
  rfl
theorem hp_step {first k : Nat} {d : Array Int} (h : 1 ≤ k) : Sort.heapPop Sort.ltInt first k d = Sort.heapPop Sort.ltInt first (k - 1) (Sort.siftDown Sort.ltInt (k - 1) first 0 (Sort.swp d first (first + (k - 1)))) := by
  obtain ⟨i, rfl⟩ : ∃ i, k = i + 1 := ⟨k - 1, by omega⟩
  rfl
theorem half_nat {n : Nat} : ((n : Int) - 1).tdiv 2 = (((n - 1) / 2 : Nat) : Int) := by
  cases n with
  | zero => rfl
  | succ m => rw [show (((m + 1 : Nat) : Int) - 1) = (m : Int) by omega]; rfl
set_option maxRecDepth 20000 in
set_option maxHeartbeats 4000000 in
theorem heap_ok (w : World) (S : Nat → Prop) (a : Option Addr) (N c : Nat) (d : Array Int) (hsz : d.size = N) (hN : N ≤ 2305843009213693951) (lo hi : Nat) (h1 : lo ≤ hi) (h2 : hi ≤ N) (hR : (row (.slice a N c) (d.toList.map (ic .u16)) 57 1).holds w S) (hlt : ∀ x, S x → x < w.heap.size) : Calls Try.prog 103 #[.slice a N c, .int .i64 ((lo : Nat) : Int), .int .i64 ((hi : Nat) : Int)] w (fun e w' => ∃ x : Unit, e = .returned (.tuple #[]) ∧ Own w S w' [row (.slice a N c) ((Sort.heapSort Sort.ltInt d lo hi).toList.map (ic .u16)) 57 1] ∧ (Sort.heapSort Sort.ltInt d lo hi).size = N) := by
  refine calls_of_Wn (n := 56) Try.func103 rfl Try.ntmps103 rfl ?_
  have hs := Own.lent hR hlt
  refine W_seq ?_
  refine W_region ?_
  refine RW_op (L_move (V := .int .i64 ((lo : Nat) : Int)) rfl ?_)
  refine RW_op (L_assign (V := .int .i64 ((lo : Nat) : Int)) rfl ?_)
  refine RW_nil ?_
  refine W_seq ?_
  refine W_region ?_
  refine RW_op (L_assign (V := .int .i64 0) rfl ?_)
  refine RW_nil ?_
  refine W_seq ?_
  refine W_region ?_
  refine RW_op (L_move (V := .int .i64 ((hi : Nat) : Int)) rfl ?_)
  refine RW_op (L_move (V := .int .i64 ((lo : Nat) : Int)) rfl ?_)
  refine RW_op (L_sub (a := ((hi : Nat) : Int)) (b := ((lo : Nat) : Int)) (c := ((hi - lo : Nat) : Int)) rfl rfl (nat_i64 (by omega) (by omega)) ?_)
  refine RW_op (L_assign (V := .int .i64 ((hi - lo : Nat) : Int)) rfl ?_)
  refine RW_nil ?_
  refine W_seq ?_
  refine W_seq ?_
  refine W_region ?_
  refine RW_op (L_move (V := .int .i64 ((hi - lo : Nat) : Int)) rfl ?_)
  refine RW_op (L_sub (a := ((hi - lo : Nat) : Int)) (b := 1) (c := ((hi - lo : Nat) : Int) - 1) rfl rfl (wr_i64 (by omega) (by omega)) ?_)
  refine RW_op (opW_to (V := .int .i64 (IntKind.i64.wrap ((((hi - lo : Nat) : Int) - 1).tdiv 2))) (V' := .int .i64 ((((hi - lo) - 1) / 2 : Nat) : Int)) (L_quo rfl rfl (by omega) rfl ⟨rfl, rfl⟩) (congrArg (Value.int .i64) (by rw [half_nat]; exact nat_i64 rfl (by omega))) ?_)
  refine RW_op (L_assign (V := .int .i64 ((((hi - lo) - 1) / 2 : Nat) : Int)) rfl ?_)
  refine RW_nil ?_
  refine W_block ?_
  refine W_loopI (fun ρ m ρ' w' => ∃ (ρo : Env) (k : Nat) (d1 : Array Int), ρ' = upd (mix [9, 18, 19, 20, 21, 22, 23, 24, 25, 26] ρo ρ) 9 (.int .i64 ((k : Int) - 1)) ∧ (k ≤ N + 1) ∧ (d1.size = N) ∧ (Sort.heapPop Sort.ltInt lo (hi - lo) (Sort.heapBuild Sort.ltInt (hi - lo) lo k d1) = Sort.heapSort Sort.ltInt d lo hi) ∧ m = 2 * k ∧ Own w S w' [row (.slice a N c) (d1.toList.map (ic .u16)) 57 1]) ?_ ?_
  · exact ⟨_, _, ((hi - lo) - 1) / 2 + 1, d, upd_of (mix_of (ds := [9, 18, 19, 20, 21, 22, 23, 24, 25, 26]) (Agr.refl _ _)) (congrArg (Value.int .i64) (by omega)), (by omega), hsz, rfl, rfl, hs⟩
  · rintro m ρ' w1 ⟨ρo, k, d1, rfl, hk, hz1, hev, rfl, hs⟩
    refine W_seq ?_
    refine W_seq ?_
    refine W_region ?_
    refine RW_op (L_move (V := .int .i64 ((k : Int) - 1)) rfl ?_)
    refine RW_op (L_geq rfl rfl ?_)
    refine RW_nil ?_
    refine W_cond (t := decide (0 ≤ (k : Int) - 1)) rfl (fun c2 => ?_) (fun c2 => ?_)
    ·
      replace c2 := of_decide_eq_true c2
      refine W_skip ?_
      refine W_seq ?_
      refine W_block ?_
      refine W_region ?_
      refine RW_op (L_move (V := .slice a N c) rfl ?_)
      refine RW_op (opW_to (V := .int .i64 ((k : Int) - 1)) (V' := .int .i64 ((k - 1 : Nat) : Int)) (L_move (V := .int .i64 ((k : Int) - 1)) rfl ⟨rfl, rfl⟩) (congrArg (Value.int .i64) (by omega)) ?_)
      refine RW_op (L_move (V := .int .i64 ((hi - lo : Nat) : Int)) rfl ?_)
      refine RW_op (L_move (V := .int .i64 ((lo : Nat) : Int)) rfl ?_)
      refine RW_op (L_callB (vs := [.slice a N c, .int .i64 ((k - 1 : Nat) : Int), .int .i64 ((hi - lo : Nat) : Int), .int .i64 ((lo : Nat) : Int)]) (V := fun _ : Unit => .tuple #[]) (R := row (.slice a N c) (d1.toList.map (ic .u16)) 57 1) (R' := fun _ => row (.slice a N c) ((Sort.siftDown Sort.ltInt (hi - lo) lo (k - 1) d1).toList.map (ic .u16)) 57 1) (Lo := fun _ => []) (F := fun _ _ => (Sort.siftDown Sort.ltInt (hi - lo) lo (k - 1) d1).size = N) EN_116 rfl rfl hs 0 rfl (fun S hS hlt => sift_ok _ S a N c d1 (by first | assumption | (simp only [Array.size_setIfInBounds, Go.Sort.size_swp]; omega)) hN (k - 1) (hi - lo) lo (by omega) (by omega) hS hlt) fun _ w3 hs hz4 => ?_)
      refine RW_nil ?_
      refine W_region ?_
      refine RW_op (L_move (V := .int .i64 ((k : Int) - 1)) rfl ?_)
      refine RW_op (L_sub (a := (k : Int) - 1) (b := 1) (c := ((k : Int) - 1) - 1) rfl rfl (wr_i64 (by omega) (by omega)) ?_)
      refine RW_op (L_assign (V := .int .i64 (((k : Int) - 1) - 1)) rfl ?_)
      refine RW_nil ?_
      refine ⟨_, ?_, _, k - 1, Sort.siftDown Sort.ltInt (hi - lo) lo (k - 1) d1, upd_of (mix_of (ds := [9, 18, 19, 20, 21, 22, 23, 24, 25, 26]) (by repeat (first | exact Agr.refl _ _ | refine Agr.upd ?_ rfl | refine Agr.mix ?_ rfl))) (congrArg (Value.int .i64) (by omega)), (by omega), (by assumption), (by rw [← hev, hb_step (k := k) (by omega)]), rfl, hs.take 1⟩
      omega
    ·
      replace c2 := of_decide_eq_false c2
      refine W_exit ?_
      refine W_seq ?_
      refine W_region ?_
      refine RW_op (L_move (V := .int .i64 ((hi - lo : Nat) : Int)) rfl ?_)
      refine RW_op (L_sub (a := ((hi - lo : Nat) : Int)) (b := 1) (c := ((hi - lo : Nat) : Int) - 1) rfl rfl (wr_i64 (by omega) (by omega)) ?_)
      refine RW_op (L_assign (V := .int .i64 (((hi - lo : Nat) : Int) - 1)) rfl ?_)
      refine RW_nil ?_
      refine W_block ?_
      have hk0 : k = 0 := by omega
      subst hk0
      have hev1 : Sort.heapPop Sort.ltInt lo (hi - lo) d1 = Sort.heapSort Sort.ltInt d lo hi := hev
      refine W_loopI (fun ρ m ρ' w' => ∃ (ρo : Env) (q : Nat) (d2 : Array Int), ρ' = upd (mix [10, 29, 30, 31, 32, 33, 34, 35, 36, 37, 38, 39, 40, 41, 42, 43, 44, 45, 46, 47, 48, 49, 50, 51, 52, 53, 54, 55] ρo ρ) 10 (.int .i64 ((q : Int) - 1)) ∧ (q ≤ hi - lo) ∧ (d2.size = N) ∧ (Sort.heapPop Sort.ltInt lo q d2 = Sort.heapSort Sort.ltInt d lo hi) ∧ m = 2 * q ∧ Own w S w' [row (.slice a N c) (d2.toList.map (ic .u16)) 57 1]) ?_ ?_
      · exact ⟨_, _, hi - lo, d1, upd_of (mix_of (ds := [10, 29, 30, 31, 32, 33, 34, 35, 36, 37, 38, 39, 40, 41, 42, 43, 44, 45, 46, 47, 48, 49, 50, 51, 52, 53, 54, 55]) (Agr.refl _ _)) rfl, (Nat.le_refl _), hz1, hev1, rfl, hs⟩
      · rintro m ρ' w6 ⟨ρo, q, d2, rfl, hk2, hz2, hev2, rfl, hs⟩
        refine W_seq ?_
        refine W_seq ?_
        refine W_region ?_
        refine RW_op (L_move (V := .int .i64 ((q : Int) - 1)) rfl ?_)
        refine RW_op (L_geq rfl rfl ?_)
        refine RW_nil ?_
        refine W_cond (t := decide (0 ≤ (q : Int) - 1)) rfl (fun c7 => ?_) (fun c7 => ?_)
        ·
          replace c7 := of_decide_eq_true c7
          refine W_skip ?_
          refine W_seq ?_
          refine W_block ?_
          refine W_seq ?_
          replace hs := hs.drew
          refine W_draw2 HM [33, 34, 35, 36, 37, 38, 39, 40, 41, 42, 43, 44, 45, 46, 47, 48, 49, 50] [[], [], [], [], [], [3, 4], [], [], [], [7, 8], [6, 9], [10], [], [], [12, 13], [14], [0, 1, 0, 1, 6, 7, 8, 9, 10, 11, 15], [16, 11, 0, 1, 6, 7, 8, 9, 10, 11, 15], [2, 5, 0, 1, 2, 3, 4, 5, 6, 7, 8, 9, 10, 11, 12, 13, 14, 15, 16, 17], [18, 15, 17, 0, 1, 2, 3, 4, 5, 6, 7, 8, 9, 10, 11, 12, 13, 14, 15, 16, 17]] (fun D ρ wx => Own w S wx [cond (D 19) (row (.slice a N c) ((((d2.setIfInBounds lo (d2[lo + (q - 1)]!)).setIfInBounds (lo + (q - 1)) (d2[lo]!)).toList).map (ic .u16)) 57 1) (cond (D 17) (row (.slice a N c) (((d2.setIfInBounds lo (d2[lo + (q - 1)]!)).toList).map (ic .u16)) 57 1) (row (.slice a N c) (d2.toList.map (ic .u16)) 57 1))] ∧ (D 0 = true → ρ 33 = .slice a N c) ∧ (D 1 = true → ρ 34 = .int .i64 ((lo : Nat) : Int)) ∧ (D 2 = true → ρ 35 = .slice a N c) ∧ (D 3 = true → ρ 36 = .int .i64 ((lo : Nat) : Int)) ∧ (D 4 = true → ρ 37 = .int .i64 ((q - 1 : Nat) : Int)) ∧ (D 5 = true → ρ 38 = .int .i64 ((lo + (q - 1) : Nat) : Int)) ∧ (D 6 = true → ρ 39 = .slice a N c) ∧ (D 7 = true → ρ 40 = .int .i64 ((lo : Nat) : Int)) ∧ (D 8 = true → ρ 41 = .int .i64 ((q - 1 : Nat) : Int)) ∧ (D 9 = true → ρ 42 = .int .i64 ((lo + (q - 1) : Nat) : Int)) ∧ (D 10 = true → ρ 43 = .pointer (some ⟨bkS (.slice a N c), ofS (.slice a N c) + ((lo + (q - 1) : Nat) : Int).toNat * 1, none⟩)) ∧ (D 11 = true → ρ 44 = .int .u16 (d2[lo + (q - 1)]!)) ∧ (D 12 = true → ρ 45 = .slice a N c) ∧ (D 13 = true → ρ 46 = .int .i64 ((lo : Nat) : Int)) ∧ (D 14 = true → ρ 47 = .pointer (some ⟨bkS (.slice a N c), ofS (.slice a N c) + ((lo : Nat) : Int).toNat * 1, none⟩)) ∧ (D 15 = true → ρ 48 = .int .u16 (d2[lo]!)) ∧ (D 16 = true → ρ 49 = .pointer (some ⟨bkS (.slice a N c), ofS (.slice a N c) + ((lo : Nat) : Int).toNat * 1, none⟩)) ∧ (True) ∧ (D 18 = true → ρ 50 = .pointer (some ⟨bkS (.slice a N c), ofS (.slice a N c) + ((lo + (q - 1) : Nat) : Int).toNat * 1, none⟩)) ∧ (True)) rfl rfl rfl ⟨hs, fun h => absurd h Bool.false_ne_true, fun h => absurd h Bool.false_ne_true, fun h => absurd h Bool.false_ne_true, fun h => absurd h Bool.false_ne_true, fun h => absurd h Bool.false_ne_true, fun h => absurd h Bool.false_ne_true, fun h => absurd h Bool.false_ne_true, fun h => absurd h Bool.false_ne_true, fun h => absurd h Bool.false_ne_true, fun h => absurd h Bool.false_ne_true, fun h => absurd h Bool.false_ne_true, fun h => absurd h Bool.false_ne_true, fun h => absurd h Bool.false_ne_true, fun h => absurd h Bool.false_ne_true, fun h => absurd h Bool.false_ne_true, fun h => absurd h Bool.false_ne_true, fun h => absurd h Bool.false_ne_true, trivial, fun h => absurd h Bool.false_ne_true, trivial⟩ ⟨?_, ?_, ?_, ?_, ?_, ?_, ?_, ?_, ?_, ?_, ?_, ?_, ?_, ?_, ?_, ?_, ?_, ?_, ?_, ?_, trivial⟩ ?_
          · rintro D ρ wx hD hd hdc hf ⟨hs, f0, f1, f2, f3, f4, f5, f6, f7, f8, f9, f10, f11, f12, f13, f14, f15, f16, f17, f18, f19⟩
            have r0 : ρ 0 = .slice a N c := outD hf 0 rfl
            exact .inl ⟨rfl, L_move (V := .slice a N c) r0 ⟨hs, fun _ => rfl, f1, f2, f3, f4, f5, f6, f7, f8, f9, f10, f11, f12, f13, f14, f15, f16, f17, f18, f19⟩⟩
          · rintro D ρ wx hD hd hdc hf ⟨hs, f0, f1, f2, f3, f4, f5, f6, f7, f8, f9, f10, f11, f12, f13, f14, f15, f16, f17, f18, f19⟩
            have r6 : ρ 6 = .int .i64 ((lo : Nat) : Int) := outD hf 6 rfl
            exact .inl ⟨rfl, L_move (V := .int .i64 ((lo : Nat) : Int)) r6 ⟨hs, f0, fun _ => rfl, f2, f3, f4, f5, f6, f7, f8, f9, f10, f11, f12, f13, f14, f15, f16, f17, f18, f19⟩⟩
          · rintro D ρ wx hD hd hdc hf ⟨hs, f0, f1, f2, f3, f4, f5, f6, f7, f8, f9, f10, f11, f12, f13, f14, f15, f16, f17, f18, f19⟩
            have r0 : ρ 0 = .slice a N c := outD hf 0 rfl
            exact .inl ⟨rfl, L_move (V := .slice a N c) r0 ⟨hs, f0, f1, fun _ => rfl, f3, f4, f5, f6, f7, f8, f9, f10, f11, f12, f13, f14, f15, f16, f17, f18, f19⟩⟩
          · rintro D ρ wx hD hd hdc hf ⟨hs, f0, f1, f2, f3, f4, f5, f6, f7, f8, f9, f10, f11, f12, f13, f14, f15, f16, f17, f18, f19⟩
            have r6 : ρ 6 = .int .i64 ((lo : Nat) : Int) := outD hf 6 rfl
            exact .inl ⟨rfl, L_move (V := .int .i64 ((lo : Nat) : Int)) r6 ⟨hs, f0, f1, f2, fun _ => rfl, f4, f5, f6, f7, f8, f9, f10, f11, f12, f13, f14, f15, f16, f17, f18, f19⟩⟩
          · rintro D ρ wx hD hd hdc hf ⟨hs, f0, f1, f2, f3, f4, f5, f6, f7, f8, f9, f10, f11, f12, f13, f14, f15, f16, f17, f18, f19⟩
            have r10 : ρ 10 = .int .i64 ((q : Int) - 1) := outD hf 10 rfl
            exact .inl ⟨rfl, opW_to (V := .int .i64 ((q : Int) - 1)) (V' := .int .i64 ((q - 1 : Nat) : Int)) (L_move (V := .int .i64 ((q : Int) - 1)) r10 ⟨rfl, rfl⟩) (congrArg (Value.int .i64) (by omega)) ⟨hs, f0, f1, f2, f3, fun _ => rfl, f5, f6, f7, f8, f9, f10, f11, f12, f13, f14, f15, f16, f17, f18, f19⟩⟩
          · rintro D ρ wx hD hd hdc hf ⟨hs, f0, f1, f2, f3, f4, f5, f6, f7, f8, f9, f10, f11, f12, f13, f14, f15, f16, f17, f18, f19⟩
            have g3 := f3 (doneD hd 3 rfl)
            have g4 := f4 (doneD hd 4 rfl)
            exact .inl ⟨rfl, L_add (a := ((lo : Nat) : Int)) (b := ((q - 1 : Nat) : Int)) (c := ((lo + (q - 1) : Nat) : Int)) g3 g4 (nat_i64 (by omega) (by omega)) ⟨hs, f0, f1, f2, f3, f4, fun _ => rfl, f6, f7, f8, f9, f10, f11, f12, f13, f14, f15, f16, f17, f18, f19⟩⟩
          · rintro D ρ wx hD hd hdc hf ⟨hs, f0, f1, f2, f3, f4, f5, f6, f7, f8, f9, f10, f11, f12, f13, f14, f15, f16, f17, f18, f19⟩
            have r0 : ρ 0 = .slice a N c := outD hf 0 rfl
            exact .inl ⟨rfl, L_move (V := .slice a N c) r0 ⟨hs, f0, f1, f2, f3, f4, f5, fun _ => rfl, f7, f8, f9, f10, f11, f12, f13, f14, f15, f16, f17, f18, f19⟩⟩
          · rintro D ρ wx hD hd hdc hf ⟨hs, f0, f1, f2, f3, f4, f5, f6, f7, f8, f9, f10, f11, f12, f13, f14, f15, f16, f17, f18, f19⟩
            have r6 : ρ 6 = .int .i64 ((lo : Nat) : Int) := outD hf 6 rfl
            exact .inl ⟨rfl, L_move (V := .int .i64 ((lo : Nat) : Int)) r6 ⟨hs, f0, f1, f2, f3, f4, f5, f6, fun _ => rfl, f8, f9, f10, f11, f12, f13, f14, f15, f16, f17, f18, f19⟩⟩
          · rintro D ρ wx hD hd hdc hf ⟨hs, f0, f1, f2, f3, f4, f5, f6, f7, f8, f9, f10, f11, f12, f13, f14, f15, f16, f17, f18, f19⟩
            have r10 : ρ 10 = .int .i64 ((q : Int) - 1) := outD hf 10 rfl
            exact .inl ⟨rfl, opW_to (V := .int .i64 ((q : Int) - 1)) (V' := .int .i64 ((q - 1 : Nat) : Int)) (L_move (V := .int .i64 ((q : Int) - 1)) r10 ⟨rfl, rfl⟩) (congrArg (Value.int .i64) (by omega)) ⟨hs, f0, f1, f2, f3, f4, f5, f6, f7, fun _ => rfl, f9, f10, f11, f12, f13, f14, f15, f16, f17, f18, f19⟩⟩
          · rintro D ρ wx hD hd hdc hf ⟨hs, f0, f1, f2, f3, f4, f5, f6, f7, f8, f9, f10, f11, f12, f13, f14, f15, f16, f17, f18, f19⟩
            have g7 := f7 (doneD hd 7 rfl)
            have g8 := f8 (doneD hd 8 rfl)
            exact .inl ⟨rfl, L_add (a := ((lo : Nat) : Int)) (b := ((q - 1 : Nat) : Int)) (c := ((lo + (q - 1) : Nat) : Int)) g7 g8 (nat_i64 (by omega) (by omega)) ⟨hs, f0, f1, f2, f3, f4, f5, f6, f7, f8, fun _ => rfl, f10, f11, f12, f13, f14, f15, f16, f17, f18, f19⟩⟩
          · rintro D ρ wx hD hd hdc hf ⟨hs, f0, f1, f2, f3, f4, f5, f6, f7, f8, f9, f10, f11, f12, f13, f14, f15, f16, f17, f18, f19⟩
            have g6 := f6 (doneD hd 6 rfl)
            have g9 := f9 (doneD hd 9 rfl)
            have d17 : D 17 = false := (notYetD hdc (j := 17) rfl rfl hD)
            have d19 : D 19 = false := (notYetD hdc (j := 19) rfl rfl hD)
            have hs0 := hs; rw [d17, d19] at hs0
            exact .inl ⟨rfl, L_ixR UD_72 S1_57.1 (hs0.rd 0 rfl) g6 g9 (by omega) (by simp only [List.length_map, Array.length_toList, Array.size_setIfInBounds, Go.Sort.size_swp]; omega) ⟨hs, f0, f1, f2, f3, f4, f5, f6, f7, f8, f9, fun _ => rfl, f11, f12, f13, f14, f15, f16, f17, f18, f19⟩⟩
          · rintro D ρ wx hD hd hdc hf ⟨hs, f0, f1, f2, f3, f4, f5, f6, f7, f8, f9, f10, f11, f12, f13, f14, f15, f16, f17, f18, f19⟩
            have g10 := f10 (doneD hd 10 rfl)
            have d17 : D 17 = false := (notYetD hdc (j := 17) rfl rfl hD)
            have d19 : D 19 = false := (notYetD hdc (j := 19) rfl rfl hD)
            have hs0 := hs; rw [d17, d19] at hs0
            exact .inl ⟨rfl, L_ldR (j := 0) (V := .int .u16 (d2[lo + (q - 1)]!)) (lo + (q - 1)) S1_57 (hs0.rd 0 rfl) (da_at (by omega)) rfl g10 (by omega) ⟨hs, f0, f1, f2, f3, f4, f5, f6, f7, f8, f9, f10, fun _ => rfl, f12, f13, f14, f15, f16, f17, f18, f19⟩⟩
          · rintro D ρ wx hD hd hdc hf ⟨hs, f0, f1, f2, f3, f4, f5, f6, f7, f8, f9, f10, f11, f12, f13, f14, f15, f16, f17, f18, f19⟩
            have r0 : ρ 0 = .slice a N c := outD hf 0 rfl
            exact .inl ⟨rfl, L_move (V := .slice a N c) r0 ⟨hs, f0, f1, f2, f3, f4, f5, f6, f7, f8, f9, f10, f11, fun _ => rfl, f13, f14, f15, f16, f17, f18, f19⟩⟩
          · rintro D ρ wx hD hd hdc hf ⟨hs, f0, f1, f2, f3, f4, f5, f6, f7, f8, f9, f10, f11, f12, f13, f14, f15, f16, f17, f18, f19⟩
            have r6 : ρ 6 = .int .i64 ((lo : Nat) : Int) := outD hf 6 rfl
            exact .inl ⟨rfl, L_move (V := .int .i64 ((lo : Nat) : Int)) r6 ⟨hs, f0, f1, f2, f3, f4, f5, f6, f7, f8, f9, f10, f11, f12, fun _ => rfl, f14, f15, f16, f17, f18, f19⟩⟩
          · rintro D ρ wx hD hd hdc hf ⟨hs, f0, f1, f2, f3, f4, f5, f6, f7, f8, f9, f10, f11, f12, f13, f14, f15, f16, f17, f18, f19⟩
            have g12 := f12 (doneD hd 12 rfl)
            have g13 := f13 (doneD hd 13 rfl)
            have d17 : D 17 = false := (notYetD hdc (j := 17) rfl rfl (notYetD hdc (j := 15) rfl rfl hD))
            have d19 : D 19 = false := (notYetD hdc (j := 19) rfl rfl hD)
            have hs0 := hs; rw [d17, d19] at hs0
            exact .inl ⟨rfl, L_ixR UD_72 S1_57.1 (hs0.rd 0 rfl) g12 g13 (by omega) (by simp only [List.length_map, Array.length_toList, Array.size_setIfInBounds, Go.Sort.size_swp]; omega) ⟨hs, f0, f1, f2, f3, f4, f5, f6, f7, f8, f9, f10, f11, f12, f13, fun _ => rfl, f15, f16, f17, f18, f19⟩⟩
          · rintro D ρ wx hD hd hdc hf ⟨hs, f0, f1, f2, f3, f4, f5, f6, f7, f8, f9, f10, f11, f12, f13, f14, f15, f16, f17, f18, f19⟩
            have g14 := f14 (doneD hd 14 rfl)
            have d17 : D 17 = false := (notYetD hdc (j := 17) rfl rfl hD)
            have d19 : D 19 = false := (notYetD hdc (j := 19) rfl rfl hD)
            have hs0 := hs; rw [d17, d19] at hs0
            exact .inl ⟨rfl, L_ldR (j := 0) (V := .int .u16 (d2[lo]!)) lo S1_57 (hs0.rd 0 rfl) (da_at (by omega)) rfl g14 (by omega) ⟨hs, f0, f1, f2, f3, f4, f5, f6, f7, f8, f9, f10, f11, f12, f13, f14, fun _ => rfl, f16, f17, f18, f19⟩⟩
          · rintro D ρ wx hD hd hdc hf ⟨hs, f0, f1, f2, f3, f4, f5, f6, f7, f8, f9, f10, f11, f12, f13, f14, f15, f16, f17, f18, f19⟩
            have g0 := f0 (doneD hd 0 rfl)
            have g1 := f1 (doneD hd 1 rfl)
            have d17 : D 17 = false := (notYetD hdc (j := 17) rfl rfl hD)
            have d19 : D 19 = false := (notYetD hdc (j := 19) rfl rfl hD)
            have hs0 := hs; rw [d17, d19] at hs0
            exact .inl ⟨rfl, L_ixR UD_72 S1_57.1 (hs0.rd 0 rfl) g0 g1 (by omega) (by simp only [List.length_map, Array.length_toList, Array.size_setIfInBounds, Go.Sort.size_swp]; omega) ⟨hs, f0, f1, f2, f3, f4, f5, f6, f7, f8, f9, f10, f11, f12, f13, f14, f15, fun _ => rfl, f17, f18, f19⟩⟩
          · rintro D ρ wx hD hd hdc hf ⟨hs, f0, f1, f2, f3, f4, f5, f6, f7, f8, f9, f10, f11, f12, f13, f14, f15, f16, f17, f18, f19⟩
            have g11 := f11 (doneD hd 11 rfl)
            have g16 := f16 (doneD hd 16 rfl)
            have d17 : D 17 = false := hD
            have d19 : D 19 = false := (notYetD hdc (j := 19) rfl rfl hD)
            have hs0 := hs; rw [d17, d19] at hs0
            refine .inl ⟨rfl, L_stA (z := d2[lo + (q - 1)]!) lo S1_57 hs0 0 rfl g16 (by omega) (by first | omega | (simp only [Array.size_setIfInBounds, Go.Sort.size_swp]; omega)) g11 rfl rfl fun _ hs0 => ⟨?_, f0, f1, f2, f3, f4, f5, f6, f7, f8, f9, f10, f11, f12, f13, f14, f15, f16, trivial, f18, f19⟩⟩
            rw [show Go.Vx.mark D 17 19 = false from d19]
            exact hs0
          · rintro D ρ wx hD hd hdc hf ⟨hs, f0, f1, f2, f3, f4, f5, f6, f7, f8, f9, f10, f11, f12, f13, f14, f15, f16, f17, f18, f19⟩
            have g2 := f2 (doneD hd 2 rfl)
            have g5 := f5 (doneD hd 5 rfl)
            have d17 : D 17 = true := doneD hd 17 rfl
            have d19 : D 19 = false := (notYetD hdc (j := 19) rfl rfl hD)
            have hs0 := hs; rw [d17, d19] at hs0
            exact .inl ⟨rfl, L_ixR UD_72 S1_57.1 (hs0.rd 0 rfl) g2 g5 (by omega) (by simp only [List.length_map, Array.length_toList, Array.size_setIfInBounds, Go.Sort.size_swp]; omega) ⟨hs, f0, f1, f2, f3, f4, f5, f6, f7, f8, f9, f10, f11, f12, f13, f14, f15, f16, f17, fun _ => rfl, f19⟩⟩
          · rintro D ρ wx hD hd hdc hf ⟨hs, f0, f1, f2, f3, f4, f5, f6, f7, f8, f9, f10, f11, f12, f13, f14, f15, f16, f17, f18, f19⟩
            have g15 := f15 (doneD hd 15 rfl)
            have g18 := f18 (doneD hd 18 rfl)
            have d17 : D 17 = true := doneD hd 17 rfl
            have d19 : D 19 = false := hD
            have hs0 := hs; rw [d17, d19] at hs0
            refine .inl ⟨rfl, L_stA (z := d2[lo]!) (lo + (q - 1)) S1_57 hs0 0 rfl g18 (by omega) (by first | omega | (simp only [Array.size_setIfInBounds, Go.Sort.size_swp]; omega)) g15 rfl rfl fun _ hs0 => ⟨?_, f0, f1, f2, f3, f4, f5, f6, f7, f8, f9, f10, f11, f12, f13, f14, f15, f16, f17, f18, trivial⟩⟩
            rw [show Go.Vx.mark D 19 17 = true from d17]
            exact hs0
          · rintro ρ1 w1 D hD hf ⟨hs, f0, f1, f2, f3, f4, f5, f6, f7, f8, f9, f10, f11, f12, f13, f14, f15, f16, f17, f18, f19⟩
            rw [hD 17 rfl, hD 19 rfl] at hs
            clear f0 f1 f2 f3 f4 f5 f6 f7 f8 f9 f10 f11 f12 f13 f14 f15 f16 f17 f18 f19
            obtain ⟨ρ2, hρ⟩ : ∃ ρ2, ρ1 = mix [33, 34, 35, 36, 37, 38, 39, 40, 41, 42, 43, 44, 45, 46, 47, 48, 49, 50] ρ2 _ := ⟨ρ1, mix_of (ds := [33, 34, 35, 36, 37, 38, 39, 40, 41, 42, 43, 44, 45, 46, 47, 48, 49, 50]) hf⟩
            clear hf hD
            subst hρ
            refine W_region ?_
            refine RW_op (L_move (V := .slice a N c) rfl ?_)
            refine RW_op (L_move (V := .int .i64 0) rfl ?_)
            refine RW_op (opW_to (V := .int .i64 ((q : Int) - 1)) (V' := .int .i64 ((q - 1 : Nat) : Int)) (L_move (V := .int .i64 ((q : Int) - 1)) rfl ⟨rfl, rfl⟩) (congrArg (Value.int .i64) (by omega)) ?_)
            refine RW_op (L_move (V := .int .i64 ((lo : Nat) : Int)) rfl ?_)
            refine RW_op (L_callB (vs := [.slice a N c, .int .i64 0, .int .i64 ((q - 1 : Nat) : Int), .int .i64 ((lo : Nat) : Int)]) (V := fun _ : Unit => .tuple #[]) (R := row (.slice a N c) (((d2.setIfInBounds lo (d2[lo + (q - 1)]!)).setIfInBounds (lo + (q - 1)) (d2[lo]!)).toList.map (ic .u16)) 57 1) (R' := fun _ => row (.slice a N c) ((Sort.siftDown Sort.ltInt (q - 1) lo 0 ((d2.setIfInBounds lo (d2[lo + (q - 1)]!)).setIfInBounds (lo + (q - 1)) (d2[lo]!))).toList.map (ic .u16)) 57 1) (Lo := fun _ => []) (F := fun _ _ => (Sort.siftDown Sort.ltInt (q - 1) lo 0 ((d2.setIfInBounds lo (d2[lo + (q - 1)]!)).setIfInBounds (lo + (q - 1)) (d2[lo]!))).size = N) EN_116 rfl rfl hs 0 rfl (fun S hS hlt => sift_ok _ S a N c ((d2.setIfInBounds lo (d2[lo + (q - 1)]!)).setIfInBounds (lo + (q - 1)) (d2[lo]!)) (by first | assumption | (simp only [Array.size_setIfInBounds, Go.Sort.size_swp]; omega)) hN 0 (q - 1) lo (by omega) (by omega) hS hlt) fun _ w11 hs hz12 => ?_)
            refine RW_nil ?_
            refine W_region ?_
            refine RW_op (L_move (V := .int .i64 ((q : Int) - 1)) rfl ?_)
            refine RW_op (L_sub (a := (q : Int) - 1) (b := 1) (c := ((q : Int) - 1) - 1) rfl rfl (wr_i64 (by omega) (by omega)) ?_)
            refine RW_op (L_assign (V := .int .i64 (((q : Int) - 1) - 1)) rfl ?_)
            refine RW_nil ?_
            refine ⟨_, ?_, _, q - 1, Sort.siftDown Sort.ltInt (q - 1) lo 0 ((d2.setIfInBounds lo (d2[lo + (q - 1)]!)).setIfInBounds (lo + (q - 1)) (d2[lo]!)), upd_of (mix_of (ds := [10, 29, 30, 31, 32, 33, 34, 35, 36, 37, 38, 39, 40, 41, 42, 43, 44, 45, 46, 47, 48, 49, 50, 51, 52, 53, 54, 55]) (by repeat (first | exact Agr.refl _ _ | refine Agr.upd ?_ rfl | refine Agr.mix ?_ rfl))) (congrArg (Value.int .i64) (by omega)), (by omega), (by assumption), (by rw [← hev2, hp_step (k := q) (by omega)]; rfl), rfl, hs.take 1⟩
            omega
        ·
          replace c7 := of_decide_eq_false c7
          refine W_exit ?_
          refine ⟨_, res_none Try.results103, ?_⟩
          have hk3 : q = 0 := by omega
          subst hk3
          have hX : d2 = Sort.heapSort Sort.ltInt d lo hi := hev2
          exact ⟨(), rfl, hX ▸ hs.take 1, hX ▸ (by first | assumption | (simp only [Array.size_setIfInBounds, Go.Sort.size_swp]; omega))⟩
end Ts
end Go.Proofs
