/-
  Walks: what is a good operation; same operations; what is in a list.
-/
import Derived.Laws.StructEq
import Derived.Sort.LotA
import Derived.Shelf.SlSortCmp.Insertion
import Derived.Test.YtfhldfjknagidaaDoorLineDepthsM1
import Derived.Test.YtfhldfjknagidaaDoorLineDepthsM2
set_option linter.unusedSimpArgs false
set_option linter.unusedVariables false
set_option linter.unnecessarySimpa false
set_option linter.all false
namespace Go.Proofs.YtfhldfjknagidaaDoor
open Go.VK Go.Tr
set_option maxRecDepth 20000
attribute [local irreducible] Go.Tr.sha
theorem zero_build {P : Program} {E : Env} {H : Gh} {L : Chunks} {T e t : TypeId} {n k : Nat} {zl : List Value} {z : Value} (hT : P.underlying T = some (.array n e)) (hz : ∀ w, (zeroValue T).run P w = .ok z w) (hzl : z.cells = zl.toArray) (hk : ∀ w, (sizeOf e).run P w = .ok k w) :
    Rd P E H L (.build T #[]) t (ag zl) := rd_build (xs := []) (ps := []) (buildT_array hT hz hzl hk) rfl rfl
theorem nm_beq (a b : Nm) : (a.bytes == b.bytes) = (a == b) := by
  by_cases h : a = b
  · subst h; simp
  · have : a.bytes ≠ b.bytes := fun e => h (Nm.ext' e)
    rw [beq_eq_false_iff_ne.2 this, beq_eq_false_iff_ne.2 h]
theorem nil_len {α : Type} {l : List α} : l = [] ↔ l.length = 0 := List.length_eq_zero_iff.symm
/-- 1 for the zero name, 0 for another. -/
def zN (a : Nm) : Nat := if a = Nm.zero then 1 else 0
theorem zN_iff {a : Nm} : a.bytes = Nm.zero.bytes ↔ zN a = 1 := by
  unfold zN
  by_cases h : a = Nm.zero
  · simp [h]
  · simp [h]; exact fun e => h (Nm.ext' e)
theorem zN_le (a : Nm) : zN a ≤ 1 := by unfold zN; split <;> omega
theorem goodDraft_iff (d : Draft) : goodDraft d = true ↔ (1 ≤ d.kind ∧ d.kind ≤ 5 ∧ 1 ≤ d.key.length ∧ d.key.length ≤ 16 ∧ d.value.length ≤ 64 ∧ ((d.kind ≤ 3 ∧ zN d.ref = 1) ∨ d.kind = 4 ∨ (d.kind = 5 ∧ zN d.ref = 0 ∧ d.value.length = 0))) := by
  have hz : (d.ref == Nm.zero) = decide (zN d.ref = 1) := by
    unfold zN
    by_cases h : d.ref = Nm.zero <;> simp [h]
  have hl := zN_le d.ref
  unfold goodDraft
  rw [hz]
  simp only [Bool.and_eq_true, decide_eq_true_iff, Bool.or_eq_true, beq_iff_eq, Bool.not_eq_true', decide_eq_false_iff_not]
  split
  · simp only [decide_eq_true_iff]; omega
  · simp only [Bool.or_eq_true, Bool.and_eq_true, beq_iff_eq, Bool.not_eq_true', decide_eq_false_iff_not]; omega
def gN (d : Draft) : Nat := if goodDraft d = true then 1 else 0
theorem gN_t {d : Draft} : goodDraft d = true ↔ gN d = 1 := by unfold gN; split <;> simp_all
theorem gN_f {d : Draft} : goodDraft d = false ↔ gN d = 0 := by unfold gN; cases h : goodDraft d <;> simp
def rN (l : List Nm) : Nat := if risingB l = true then 1 else 0
theorem gN_le (d : Draft) : gN d ≤ 1 := by unfold gN; split <;> omega
theorem rN_le (l : List Nm) : rN l ≤ 1 := by unfold rN; split <;> omega
theorem good_iff (o : POp) : good o = true ↔ (gN o.draft = 1 ∧ 0 ≤ o.author ∧ o.author ≤ 4 ∧ ((o.preds.length = 0 ∧ o.depth = 1) ∨ (o.preds.length ≠ 0 ∧ 2 ≤ o.depth)) ∧ o.preds.length ≤ 32 ∧ rN o.preds = 1) := by
  have hr : risingB o.preds = true ↔ rN o.preds = 1 := by unfold rN; split <;> simp_all
  unfold good
  simp only [Bool.and_eq_true, decide_eq_true_iff, gN_t, hr]
  split
  · simp only [beq_iff_eq]; omega
  · simp only [decide_eq_true_iff]; omega
theorem rising_iff : ∀ (l : List Nm), risingB l = true ↔ ∀ j, j + 1 < l.length → cmp (l.getD j Nm.zero) (l.getD (j + 1) Nm.zero) < 0
  | [] => by simp [risingB]
  | [a] => by simp [risingB]
  | a :: b :: r => by
    have ih := rising_iff (b :: r)
    simp only [risingB, Bool.and_eq_true, ih, ltN, decide_eq_true_iff]
    constructor
    · rintro ⟨h1, h2⟩ j hj
      cases j with
      | zero => exact h1
      | succ j => exact h2 j (by simp only [List.length_cons] at hj ⊢; omega)
    · intro h
      exact ⟨h 0 (by simp), fun j hj => h (j + 1) (by simp only [List.length_cons] at hj ⊢; omega)⟩
theorem rN_one {l : List Nm} (h : ∀ j, j + 1 < l.length → cmp (l.getD j Nm.zero) (l.getD (j + 1) Nm.zero) < 0) : rN l = 1 := by unfold rN; rw [if_pos ((rising_iff l).2 h)]
theorem rN_zero {l : List Nm} {j : Nat} (hj : j + 1 < l.length) (h : ¬ cmp (l.getD j Nm.zero) (l.getD (j + 1) Nm.zero) < 0) : rN l = 0 := by
  unfold rN; rw [if_neg (fun e => h ((rising_iff l).1 e j hj))]
theorem cmpB_range : ∀ (a b : Bs), cmpB a b = -1 ∨ cmpB a b = 0 ∨ cmpB a b = 1
  | [], [] => .inr (.inl rfl)
  | [], _ :: _ => .inl rfl
  | _ :: _, [] => .inr (.inr rfl)
  | a :: x, b :: y => by
    unfold cmpB
    split
    · exact .inl rfl
    · split
      · exact .inr (.inr rfl)
      · exact cmpB_range x y
theorem ids_at2 {H : Gh} {L : Chunks} {b off : Nat} {l : List Value} {a : Option Addr} {xs : List Nm} (h1 : xs ≠ [] → a = some ⟨b, off, none⟩ ∧ Cells H L b l) (h2 : ∀ j x, xs[j]? = some x → Seg l (off + j * 32) (encId x)) {j : Nat} {i : Int} (hj : j < xs.length) (hi : i = (j : Int)) :
    a = some ⟨b, off, none⟩ ∧ Cells H L b l ∧ Seg l (off + i.toNat * 32) (encId (xs.getD j Nm.zero)) := by
  subst hi
  have h := ids_at h1 h2 hj
  rw [List.getD_eq_getElem?_getD, List.getElem?_eq_getElem hj]
  exact h
theorem iN_t {x y : Int} : (x != y) = true ↔ ¬ x = y := by simp
theorem iN_f {x y : Int} : (x != y) = false ↔ x = y := by simp
theorem bN_t {p q : Bool} : (p != q) = true ↔ ¬ (p = true ↔ q = true) := by cases p <;> cases q <;> simp
theorem bN_f {p q : Bool} : (p != q) = false ↔ (p = true ↔ q = true) := by cases p <;> cases q <;> simp
theorem mono_cons {H : Gh} {L : Chunks} {b : Nat} {l : List Value} {c : Nat × Obj} (h : Cells H L b l) : Cells H (c :: L) b l := h.mono (Gh.le_refl _) fun _ hx => List.mem_cons_of_mem _ hx

theorem goodDraft_cc (H : Gh) (L : Chunks) (d : Draft) :
    CC Tryd.prog 61 #[ag (encDraft d)] H L (fun v H' L' => v = .bool (goodDraft d) ∧ H = H' ∧ L = L') := by
 refine cc_of Tryd.func61 rfl (Nat.le_of_ble_eq_true rfl) ?_
 simp only [Tryd.ntmps61]
 refine gc_seq (gc_seqr [(.nm, 0), (.mv, 1)] rfl ?_)
 refine gr_nx rfl rfl rfl (nx_box rfl rfl) ?_; rintro _ _ _ _ ⟨b1, rfl, rfl, rfl⟩; refine ⟨trivial, ?_⟩
 refine ga rfl rfl rfl rfl ?_
 refine gr_nil (gk_then ?_)
 refine gc_seq (gc_seqr [(.mv, 0), (.mv, 1), (.mv, 2), (.mv, 3), (.mv, 4)] rfl ?_)
 refine gr_rd rfl rfl rfl (rd_fieldAddr Tryd.fa36_3 rfl) ?_
 refine gr_rd rfl rfl rfl (rd_loadA Tryd.ta34 rfl (Cells.own List.mem_cons_self) (encDraft_seg_ref d) (encId_length _)) ?_
 refine gr_rd rfl rfl rfl (zero_build (zl := encId Nm.zero) Tryd.underlying34 Tryd.zeroValue34 rfl Tryd.sizeOf5) ?_
 refine gr_rd rfl rfl rfl (rd_arrNe Tryd.tb34 (by first | exact Nm.len _ | assumption | simp) (by first | exact Nm.len _ | assumption | simp) rfl rfl) ?_
 refine ga rfl rfl rfl rfl ?_
 refine gr_nil (gk_then ?_)
 refine gc_seq ?_
 refine gc_seq (gc_seqr [(.mv, 0), (.mv, 1)] rfl ?_)
 refine gr_rd rfl rfl rfl (rd_fieldAddr Tryd.fa36_0 rfl) ?_
 refine gr_rd rfl rfl rfl (rd_load1 Tryd.to3 rfl cel at1) ?_
 refine gr_nil (gk_then ?_)
 refine gc_block ?_
 refine gc_seq ?_
 refine gc_seq (gc_seqr [(.mv, 0), (.mv, 1)] rfl ?_)
 refine gr_rd rfl rfl rfl (rd_eql rfl rfl) ?_
 refine ga rfl rfl rfl rfl ?_
 refine gr_nil (gk_then ?_)
 refine gc_cond rfl (fun hc0 => ?_) (fun hc0 => ?_)
 ·skip
  refine gc_skip ?_
  refine gk_then ?_
  refine gc_cond rfl (fun hc1 => ?_) (fun hc1 => ?_)
  ·skip
   refine gc_seq (gc_seqr [(.mv, 0)] rfl ?_)
   refine gm rfl rfl rfl rfl ?_
   refine gr_nil (gk_then ?_)
   refine gc_cond rfl (fun hc2 => ?_) (fun hc2 => ?_)
   ·skip
    refine gc_seq (gc_seqr [(.mv, 0)] rfl ?_)
    refine ga rfl rfl rfl rfl ?_
    refine gr_nil (gk_then ?_)
    refine gc_ret ?_
    refine gk_ret_inBlock ?_
    refine gk_ret_then ?_
    refine gk_result (L' := L) (.inl rfl) _ (res1 rfl rfl) sbl gle ?_
    refine ⟨?_, rfl, rfl⟩
    congr 1
    rw [Bool.eq_iff_iff, goodDraft_iff]
    have hzl := zN_le d.ref
    simp only [beq_iff_eq, beq_eq_false_iff_ne, bne_iff_ne, bne_eq_false_iff_eq, Bool.not_eq_true', Bool.not_eq_false', decide_eq_true_iff, decide_eq_false_iff_not, nil_len, zN_iff, ne_eq, Bool.false_eq_true, iff_false, false_iff, not_and, not_or, true_iff, iff_true, Bool.not_not, Decidable.not_not] at * <;> omega
   ·skip
    refine gc_skip ?_
    refine gk_inBlock ?_
    refine gk_then ?_
    refine gc_seq (gc_seqr [(.mv, 0), (.mv, 1), (.mv, 2), (.mv, 3), (.mv, 4), (.mv, 5), (.mv, 6), (.mv, 7), (.mv, 8), (.mv, 9), (.mv, 10), (.mv, 11), (.mv, 12), (.mv, 13), (.mv, 14), (.mv, 15)] rfl ?_)
    refine gr_rd rfl rfl rfl (rd_fieldAddr Tryd.fa36_1 rfl) ?_
    refine gr_rd rfl rfl rfl (rd_load1 Tryd.to9 rfl cel at1) ?_
    refine gr_rd rfl rfl rfl (rd_strNeL rfl rfl) ?_
    refine gm rfl rfl rfl rfl ?_
    refine gr_split rfl (fun hg3 => ?_) (fun hg3 => ?_)
    ·skip
     refine gr_rd rfl rfl rfl (rd_fieldAddr Tryd.fa36_1 rfl) ?_
     refine gr_rd rfl rfl rfl (rd_load1 Tryd.to9 rfl cel at1) ?_
     refine gr_rd rfl rfl rfl (rd_lenL Tryd.underlying9 rfl) ?_
     refine gr_rd rfl rfl rfl (rd_leq rfl rfl) ?_
     (first | refine gpt rfl rfl rfl rfl rfl ?_ | refine gpf rfl rfl rfl rfl rfl ?_)
     refine gm rfl rfl rfl rfl ?_
     refine gr_split rfl (fun hg9 => ?_) (fun hg9 => ?_)
     ·skip
      refine gr_rd rfl rfl rfl (rd_fieldAddr Tryd.fa36_2 rfl) ?_
      refine gr_rd rfl rfl rfl (rd_load1 Tryd.to9 rfl cel at1) ?_
      refine gr_rd rfl rfl rfl (rd_lenL Tryd.underlying9 rfl) ?_
      refine gr_rd rfl rfl rfl (rd_leq rfl rfl) ?_
      (first | refine gpt rfl rfl rfl rfl rfl ?_ | refine gpf rfl rfl rfl rfl rfl ?_)
      refine ga rfl rfl rfl rfl ?_
      refine gr_nil (gk_then ?_)
      refine gc_ret ?_
      refine gk_result (L' := L) (.inl rfl) _ (res1 rfl rfl) sbl gle ?_
      refine ⟨?_, rfl, rfl⟩
      congr 1
      rw [Bool.eq_iff_iff, goodDraft_iff]
      have hzl := zN_le d.ref
      simp only [beq_iff_eq, beq_eq_false_iff_ne, bne_iff_ne, bne_eq_false_iff_eq, Bool.not_eq_true', Bool.not_eq_false', decide_eq_true_iff, decide_eq_false_iff_not, nil_len, zN_iff, ne_eq, Bool.false_eq_true, iff_false, false_iff, not_and, not_or, true_iff, iff_true, Bool.not_not, Decidable.not_not] at * <;> omega
     ·skip
      refine gr_no rfl rfl rfl ?_
      refine gr_no rfl rfl rfl ?_
      refine gr_no rfl rfl rfl ?_
      refine gr_no rfl rfl rfl ?_
      (first | refine gpt rfl rfl rfl rfl rfl ?_ | refine gpf rfl rfl rfl rfl rfl ?_)
      refine ga rfl rfl rfl rfl ?_
      refine gr_nil (gk_then ?_)
      refine gc_ret ?_
      refine gk_result (L' := L) (.inl rfl) _ (res1 rfl rfl) sbl gle ?_
      refine ⟨?_, rfl, rfl⟩
      congr 1
      rw [Bool.eq_iff_iff, goodDraft_iff]
      have hzl := zN_le d.ref
      simp only [beq_iff_eq, beq_eq_false_iff_ne, bne_iff_ne, bne_eq_false_iff_eq, Bool.not_eq_true', Bool.not_eq_false', decide_eq_true_iff, decide_eq_false_iff_not, nil_len, zN_iff, ne_eq, Bool.false_eq_true, iff_false, false_iff, not_and, not_or, true_iff, iff_true, Bool.not_not, Decidable.not_not] at * <;> omega
    ·skip
     refine gr_no rfl rfl rfl ?_
     refine gr_no rfl rfl rfl ?_
     refine gr_no rfl rfl rfl ?_
     refine gr_no rfl rfl rfl ?_
     (first | refine gpt rfl rfl rfl rfl rfl ?_ | refine gpf rfl rfl rfl rfl rfl ?_)
     refine gm rfl rfl rfl rfl ?_
     refine gr_no rfl rfl rfl ?_
     refine gr_no rfl rfl rfl ?_
     refine gr_no rfl rfl rfl ?_
     refine gr_no rfl rfl rfl ?_
     (first | refine gpt rfl rfl rfl rfl rfl ?_ | refine gpf rfl rfl rfl rfl rfl ?_)
     refine ga rfl rfl rfl rfl ?_
     refine gr_nil (gk_then ?_)
     refine gc_ret ?_
     refine gk_result (L' := L) (.inl rfl) _ (res1 rfl rfl) sbl gle ?_
     refine ⟨?_, rfl, rfl⟩
     congr 1
     rw [Bool.eq_iff_iff, goodDraft_iff]
     have hzl := zN_le d.ref
     simp only [beq_iff_eq, beq_eq_false_iff_ne, bne_iff_ne, bne_eq_false_iff_eq, Bool.not_eq_true', Bool.not_eq_false', decide_eq_true_iff, decide_eq_false_iff_not, nil_len, zN_iff, ne_eq, Bool.false_eq_true, iff_false, false_iff, not_and, not_or, true_iff, iff_true, Bool.not_not, Decidable.not_not] at * <;> omega
  ·skip
   refine gc_seq (gc_seqr [(.mv, 0), (.mv, 1)] rfl ?_)
   refine gr_rd rfl rfl rfl (rd_eql rfl rfl) ?_
   refine ga rfl rfl rfl rfl ?_
   refine gr_nil (gk_then ?_)
   refine gc_cond rfl (fun hc3 => ?_) (fun hc3 => ?_)
   ·skip
    refine gc_skip ?_
    refine gk_inBlock ?_
    refine gk_then ?_
    refine gc_seq (gc_seqr [(.mv, 0), (.mv, 1), (.mv, 2), (.mv, 3), (.mv, 4), (.mv, 5), (.mv, 6), (.mv, 7), (.mv, 8), (.mv, 9), (.mv, 10), (.mv, 11), (.mv, 12), (.mv, 13), (.mv, 14), (.mv, 15)] rfl ?_)
    refine gr_rd rfl rfl rfl (rd_fieldAddr Tryd.fa36_1 rfl) ?_
    refine gr_rd rfl rfl rfl (rd_load1 Tryd.to9 rfl cel at1) ?_
    refine gr_rd rfl rfl rfl (rd_strNeL rfl rfl) ?_
    refine gm rfl rfl rfl rfl ?_
    refine gr_split rfl (fun hg3 => ?_) (fun hg3 => ?_)
    ·skip
     refine gr_rd rfl rfl rfl (rd_fieldAddr Tryd.fa36_1 rfl) ?_
     refine gr_rd rfl rfl rfl (rd_load1 Tryd.to9 rfl cel at1) ?_
     refine gr_rd rfl rfl rfl (rd_lenL Tryd.underlying9 rfl) ?_
     refine gr_rd rfl rfl rfl (rd_leq rfl rfl) ?_
     (first | refine gpt rfl rfl rfl rfl rfl ?_ | refine gpf rfl rfl rfl rfl rfl ?_)
     refine gm rfl rfl rfl rfl ?_
     refine gr_split rfl (fun hg9 => ?_) (fun hg9 => ?_)
     ·skip
      refine gr_rd rfl rfl rfl (rd_fieldAddr Tryd.fa36_2 rfl) ?_
      refine gr_rd rfl rfl rfl (rd_load1 Tryd.to9 rfl cel at1) ?_
      refine gr_rd rfl rfl rfl (rd_lenL Tryd.underlying9 rfl) ?_
      refine gr_rd rfl rfl rfl (rd_leq rfl rfl) ?_
      (first | refine gpt rfl rfl rfl rfl rfl ?_ | refine gpf rfl rfl rfl rfl rfl ?_)
      refine ga rfl rfl rfl rfl ?_
      refine gr_nil (gk_then ?_)
      refine gc_ret ?_
      refine gk_result (L' := L) (.inl rfl) _ (res1 rfl rfl) sbl gle ?_
      refine ⟨?_, rfl, rfl⟩
      congr 1
      rw [Bool.eq_iff_iff, goodDraft_iff]
      have hzl := zN_le d.ref
      simp only [beq_iff_eq, beq_eq_false_iff_ne, bne_iff_ne, bne_eq_false_iff_eq, Bool.not_eq_true', Bool.not_eq_false', decide_eq_true_iff, decide_eq_false_iff_not, nil_len, zN_iff, ne_eq, Bool.false_eq_true, iff_false, false_iff, not_and, not_or, true_iff, iff_true, Bool.not_not, Decidable.not_not] at * <;> omega
     ·skip
      refine gr_no rfl rfl rfl ?_
      refine gr_no rfl rfl rfl ?_
      refine gr_no rfl rfl rfl ?_
      refine gr_no rfl rfl rfl ?_
      (first | refine gpt rfl rfl rfl rfl rfl ?_ | refine gpf rfl rfl rfl rfl rfl ?_)
      refine ga rfl rfl rfl rfl ?_
      refine gr_nil (gk_then ?_)
      refine gc_ret ?_
      refine gk_result (L' := L) (.inl rfl) _ (res1 rfl rfl) sbl gle ?_
      refine ⟨?_, rfl, rfl⟩
      congr 1
      rw [Bool.eq_iff_iff, goodDraft_iff]
      have hzl := zN_le d.ref
      simp only [beq_iff_eq, beq_eq_false_iff_ne, bne_iff_ne, bne_eq_false_iff_eq, Bool.not_eq_true', Bool.not_eq_false', decide_eq_true_iff, decide_eq_false_iff_not, nil_len, zN_iff, ne_eq, Bool.false_eq_true, iff_false, false_iff, not_and, not_or, true_iff, iff_true, Bool.not_not, Decidable.not_not] at * <;> omega
    ·skip
     refine gr_no rfl rfl rfl ?_
     refine gr_no rfl rfl rfl ?_
     refine gr_no rfl rfl rfl ?_
     refine gr_no rfl rfl rfl ?_
     (first | refine gpt rfl rfl rfl rfl rfl ?_ | refine gpf rfl rfl rfl rfl rfl ?_)
     refine gm rfl rfl rfl rfl ?_
     refine gr_no rfl rfl rfl ?_
     refine gr_no rfl rfl rfl ?_
     refine gr_no rfl rfl rfl ?_
     refine gr_no rfl rfl rfl ?_
     (first | refine gpt rfl rfl rfl rfl rfl ?_ | refine gpf rfl rfl rfl rfl rfl ?_)
     refine ga rfl rfl rfl rfl ?_
     refine gr_nil (gk_then ?_)
     refine gc_ret ?_
     refine gk_result (L' := L) (.inl rfl) _ (res1 rfl rfl) sbl gle ?_
     refine ⟨?_, rfl, rfl⟩
     congr 1
     rw [Bool.eq_iff_iff, goodDraft_iff]
     have hzl := zN_le d.ref
     simp only [beq_iff_eq, beq_eq_false_iff_ne, bne_iff_ne, bne_eq_false_iff_eq, Bool.not_eq_true', Bool.not_eq_false', decide_eq_true_iff, decide_eq_false_iff_not, nil_len, zN_iff, ne_eq, Bool.false_eq_true, iff_false, false_iff, not_and, not_or, true_iff, iff_true, Bool.not_not, Decidable.not_not] at * <;> omega
   ·skip
    refine gc_seq (gc_seqr [(.mv, 0), (.mv, 1)] rfl ?_)
    refine gr_rd rfl rfl rfl (rd_eql rfl rfl) ?_
    refine ga rfl rfl rfl rfl ?_
    refine gr_nil (gk_then ?_)
    refine gc_cond rfl (fun hc4 => ?_) (fun hc4 => ?_)
    ·skip
     refine gc_seq (gc_seqr [(.mv, 0), (.mv, 1), (.mv, 2), (.mv, 3), (.mv, 4), (.mv, 5), (.mv, 6)] rfl ?_)
     refine gm rfl rfl rfl rfl ?_
     refine gr_rd rfl rfl rfl (rd_not rfl) ?_
     refine gm rfl rfl rfl rfl ?_
     refine gr_split rfl (fun hg2 => ?_) (fun hg2 => ?_)
     ·skip
      refine gr_no rfl rfl rfl ?_
      refine gr_no rfl rfl rfl ?_
      refine gr_no rfl rfl rfl ?_
      (first | refine gpt rfl rfl rfl rfl rfl ?_ | refine gpf rfl rfl rfl rfl rfl ?_)
      refine gr_nil (gk_then ?_)
      refine gc_yes rfl ?_
      refine gc_seq (gc_seqr [(.mv, 0)] rfl ?_)
      refine ga rfl rfl rfl rfl ?_
      refine gr_nil (gk_then ?_)
      refine gc_ret ?_
      refine gk_ret_inBlock ?_
      refine gk_ret_then ?_
      refine gk_result (L' := L) (.inl rfl) _ (res1 rfl rfl) sbl gle ?_
      refine ⟨?_, rfl, rfl⟩
      congr 1
      rw [Bool.eq_iff_iff, goodDraft_iff]
      have hzl := zN_le d.ref
      simp only [beq_iff_eq, beq_eq_false_iff_ne, bne_iff_ne, bne_eq_false_iff_eq, Bool.not_eq_true', Bool.not_eq_false', decide_eq_true_iff, decide_eq_false_iff_not, nil_len, zN_iff, ne_eq, Bool.false_eq_true, iff_false, false_iff, not_and, not_or, true_iff, iff_true, Bool.not_not, Decidable.not_not] at * <;> omega
     ·skip
      refine gr_rd rfl rfl rfl (rd_fieldAddr Tryd.fa36_2 rfl) ?_
      refine gr_rd rfl rfl rfl (rd_load1 Tryd.to9 rfl cel at1) ?_
      refine gr_rd rfl rfl rfl (rd_strNeL rfl rfl) ?_
      (first | refine gpt rfl rfl rfl rfl rfl ?_ | refine gpf rfl rfl rfl rfl rfl ?_)
      refine gr_nil (gk_then ?_)
      refine gc_cond rfl (fun hc5 => ?_) (fun hc5 => ?_)
      ·skip
       refine gc_seq (gc_seqr [(.mv, 0)] rfl ?_)
       refine ga rfl rfl rfl rfl ?_
       refine gr_nil (gk_then ?_)
       refine gc_ret ?_
       refine gk_ret_inBlock ?_
       refine gk_ret_then ?_
       refine gk_result (L' := L) (.inl rfl) _ (res1 rfl rfl) sbl gle ?_
       refine ⟨?_, rfl, rfl⟩
       congr 1
       rw [Bool.eq_iff_iff, goodDraft_iff]
       have hzl := zN_le d.ref
       simp only [beq_iff_eq, beq_eq_false_iff_ne, bne_iff_ne, bne_eq_false_iff_eq, Bool.not_eq_true', Bool.not_eq_false', decide_eq_true_iff, decide_eq_false_iff_not, nil_len, zN_iff, ne_eq, Bool.false_eq_true, iff_false, false_iff, not_and, not_or, true_iff, iff_true, Bool.not_not, Decidable.not_not] at * <;> omega
      ·skip
       refine gc_skip ?_
       refine gk_inBlock ?_
       refine gk_then ?_
       refine gc_seq (gc_seqr [(.mv, 0), (.mv, 1), (.mv, 2), (.mv, 3), (.mv, 4), (.mv, 5), (.mv, 6), (.mv, 7), (.mv, 8), (.mv, 9), (.mv, 10), (.mv, 11), (.mv, 12), (.mv, 13), (.mv, 14), (.mv, 15)] rfl ?_)
       refine gr_rd rfl rfl rfl (rd_fieldAddr Tryd.fa36_1 rfl) ?_
       refine gr_rd rfl rfl rfl (rd_load1 Tryd.to9 rfl cel at1) ?_
       refine gr_rd rfl rfl rfl (rd_strNeL rfl rfl) ?_
       refine gm rfl rfl rfl rfl ?_
       refine gr_split rfl (fun hg3 => ?_) (fun hg3 => ?_)
       ·skip
        refine gr_rd rfl rfl rfl (rd_fieldAddr Tryd.fa36_1 rfl) ?_
        refine gr_rd rfl rfl rfl (rd_load1 Tryd.to9 rfl cel at1) ?_
        refine gr_rd rfl rfl rfl (rd_lenL Tryd.underlying9 rfl) ?_
        refine gr_rd rfl rfl rfl (rd_leq rfl rfl) ?_
        (first | refine gpt rfl rfl rfl rfl rfl ?_ | refine gpf rfl rfl rfl rfl rfl ?_)
        refine gm rfl rfl rfl rfl ?_
        refine gr_split rfl (fun hg9 => ?_) (fun hg9 => ?_)
        ·skip
         refine gr_rd rfl rfl rfl (rd_fieldAddr Tryd.fa36_2 rfl) ?_
         refine gr_rd rfl rfl rfl (rd_load1 Tryd.to9 rfl cel at1) ?_
         refine gr_rd rfl rfl rfl (rd_lenL Tryd.underlying9 rfl) ?_
         refine gr_rd rfl rfl rfl (rd_leq rfl rfl) ?_
         (first | refine gpt rfl rfl rfl rfl rfl ?_ | refine gpf rfl rfl rfl rfl rfl ?_)
         refine ga rfl rfl rfl rfl ?_
         refine gr_nil (gk_then ?_)
         refine gc_ret ?_
         refine gk_result (L' := L) (.inl rfl) _ (res1 rfl rfl) sbl gle ?_
         refine ⟨?_, rfl, rfl⟩
         congr 1
         rw [Bool.eq_iff_iff, goodDraft_iff]
         have hzl := zN_le d.ref
         simp only [beq_iff_eq, beq_eq_false_iff_ne, bne_iff_ne, bne_eq_false_iff_eq, Bool.not_eq_true', Bool.not_eq_false', decide_eq_true_iff, decide_eq_false_iff_not, nil_len, zN_iff, ne_eq, Bool.false_eq_true, iff_false, false_iff, not_and, not_or, true_iff, iff_true, Bool.not_not, Decidable.not_not] at * <;> omega
        ·skip
         refine gr_no rfl rfl rfl ?_
         refine gr_no rfl rfl rfl ?_
         refine gr_no rfl rfl rfl ?_
         refine gr_no rfl rfl rfl ?_
         (first | refine gpt rfl rfl rfl rfl rfl ?_ | refine gpf rfl rfl rfl rfl rfl ?_)
         refine ga rfl rfl rfl rfl ?_
         refine gr_nil (gk_then ?_)
         refine gc_ret ?_
         refine gk_result (L' := L) (.inl rfl) _ (res1 rfl rfl) sbl gle ?_
         refine ⟨?_, rfl, rfl⟩
         congr 1
         rw [Bool.eq_iff_iff, goodDraft_iff]
         have hzl := zN_le d.ref
         simp only [beq_iff_eq, beq_eq_false_iff_ne, bne_iff_ne, bne_eq_false_iff_eq, Bool.not_eq_true', Bool.not_eq_false', decide_eq_true_iff, decide_eq_false_iff_not, nil_len, zN_iff, ne_eq, Bool.false_eq_true, iff_false, false_iff, not_and, not_or, true_iff, iff_true, Bool.not_not, Decidable.not_not] at * <;> omega
       ·skip
        refine gr_no rfl rfl rfl ?_
        refine gr_no rfl rfl rfl ?_
        refine gr_no rfl rfl rfl ?_
        refine gr_no rfl rfl rfl ?_
        (first | refine gpt rfl rfl rfl rfl rfl ?_ | refine gpf rfl rfl rfl rfl rfl ?_)
        refine gm rfl rfl rfl rfl ?_
        refine gr_no rfl rfl rfl ?_
        refine gr_no rfl rfl rfl ?_
        refine gr_no rfl rfl rfl ?_
        refine gr_no rfl rfl rfl ?_
        (first | refine gpt rfl rfl rfl rfl rfl ?_ | refine gpf rfl rfl rfl rfl rfl ?_)
        refine ga rfl rfl rfl rfl ?_
        refine gr_nil (gk_then ?_)
        refine gc_ret ?_
        refine gk_result (L' := L) (.inl rfl) _ (res1 rfl rfl) sbl gle ?_
        refine ⟨?_, rfl, rfl⟩
        congr 1
        rw [Bool.eq_iff_iff, goodDraft_iff]
        have hzl := zN_le d.ref
        simp only [beq_iff_eq, beq_eq_false_iff_ne, bne_iff_ne, bne_eq_false_iff_eq, Bool.not_eq_true', Bool.not_eq_false', decide_eq_true_iff, decide_eq_false_iff_not, nil_len, zN_iff, ne_eq, Bool.false_eq_true, iff_false, false_iff, not_and, not_or, true_iff, iff_true, Bool.not_not, Decidable.not_not] at * <;> omega
    ·skip
     refine gc_seq (gc_seqr [(.mv, 0)] rfl ?_)
     refine ga rfl rfl rfl rfl ?_
     refine gr_nil (gk_then ?_)
     refine gc_ret ?_
     refine gk_ret_inBlock ?_
     refine gk_ret_then ?_
     refine gk_result (L' := L) (.inl rfl) _ (res1 rfl rfl) sbl gle ?_
     refine ⟨?_, rfl, rfl⟩
     congr 1
     rw [Bool.eq_iff_iff, goodDraft_iff]
     have hzl := zN_le d.ref
     simp only [beq_iff_eq, beq_eq_false_iff_ne, bne_iff_ne, bne_eq_false_iff_eq, Bool.not_eq_true', Bool.not_eq_false', decide_eq_true_iff, decide_eq_false_iff_not, nil_len, zN_iff, ne_eq, Bool.false_eq_true, iff_false, false_iff, not_and, not_or, true_iff, iff_true, Bool.not_not, Decidable.not_not] at * <;> omega
 ·skip
  refine gc_seq (gc_seqr [(.mv, 0), (.mv, 1)] rfl ?_)
  refine gr_rd rfl rfl rfl (rd_eql rfl rfl) ?_
  refine ga rfl rfl rfl rfl ?_
  refine gr_nil (gk_then ?_)
  refine gc_cond rfl (fun hc6 => ?_) (fun hc6 => ?_)
  ·skip
   refine gc_skip ?_
   refine gk_then ?_
   refine gc_cond rfl (fun hc7 => ?_) (fun hc7 => ?_)
   ·skip
    refine gc_seq (gc_seqr [(.mv, 0)] rfl ?_)
    refine gm rfl rfl rfl rfl ?_
    refine gr_nil (gk_then ?_)
    refine gc_cond rfl (fun hc8 => ?_) (fun hc8 => ?_)
    ·skip
     refine gc_seq (gc_seqr [(.mv, 0)] rfl ?_)
     refine ga rfl rfl rfl rfl ?_
     refine gr_nil (gk_then ?_)
     refine gc_ret ?_
     refine gk_ret_inBlock ?_
     refine gk_ret_then ?_
     refine gk_result (L' := L) (.inl rfl) _ (res1 rfl rfl) sbl gle ?_
     refine ⟨?_, rfl, rfl⟩
     congr 1
     rw [Bool.eq_iff_iff, goodDraft_iff]
     have hzl := zN_le d.ref
     simp only [beq_iff_eq, beq_eq_false_iff_ne, bne_iff_ne, bne_eq_false_iff_eq, Bool.not_eq_true', Bool.not_eq_false', decide_eq_true_iff, decide_eq_false_iff_not, nil_len, zN_iff, ne_eq, Bool.false_eq_true, iff_false, false_iff, not_and, not_or, true_iff, iff_true, Bool.not_not, Decidable.not_not] at * <;> omega
    ·skip
     refine gc_skip ?_
     refine gk_inBlock ?_
     refine gk_then ?_
     refine gc_seq (gc_seqr [(.mv, 0), (.mv, 1), (.mv, 2), (.mv, 3), (.mv, 4), (.mv, 5), (.mv, 6), (.mv, 7), (.mv, 8), (.mv, 9), (.mv, 10), (.mv, 11), (.mv, 12), (.mv, 13), (.mv, 14), (.mv, 15)] rfl ?_)
     refine gr_rd rfl rfl rfl (rd_fieldAddr Tryd.fa36_1 rfl) ?_
     refine gr_rd rfl rfl rfl (rd_load1 Tryd.to9 rfl cel at1) ?_
     refine gr_rd rfl rfl rfl (rd_strNeL rfl rfl) ?_
     refine gm rfl rfl rfl rfl ?_
     refine gr_split rfl (fun hg3 => ?_) (fun hg3 => ?_)
     ·skip
      refine gr_rd rfl rfl rfl (rd_fieldAddr Tryd.fa36_1 rfl) ?_
      refine gr_rd rfl rfl rfl (rd_load1 Tryd.to9 rfl cel at1) ?_
      refine gr_rd rfl rfl rfl (rd_lenL Tryd.underlying9 rfl) ?_
      refine gr_rd rfl rfl rfl (rd_leq rfl rfl) ?_
      (first | refine gpt rfl rfl rfl rfl rfl ?_ | refine gpf rfl rfl rfl rfl rfl ?_)
      refine gm rfl rfl rfl rfl ?_
      refine gr_split rfl (fun hg9 => ?_) (fun hg9 => ?_)
      ·skip
       refine gr_rd rfl rfl rfl (rd_fieldAddr Tryd.fa36_2 rfl) ?_
       refine gr_rd rfl rfl rfl (rd_load1 Tryd.to9 rfl cel at1) ?_
       refine gr_rd rfl rfl rfl (rd_lenL Tryd.underlying9 rfl) ?_
       refine gr_rd rfl rfl rfl (rd_leq rfl rfl) ?_
       (first | refine gpt rfl rfl rfl rfl rfl ?_ | refine gpf rfl rfl rfl rfl rfl ?_)
       refine ga rfl rfl rfl rfl ?_
       refine gr_nil (gk_then ?_)
       refine gc_ret ?_
       refine gk_result (L' := L) (.inl rfl) _ (res1 rfl rfl) sbl gle ?_
       refine ⟨?_, rfl, rfl⟩
       congr 1
       rw [Bool.eq_iff_iff, goodDraft_iff]
       have hzl := zN_le d.ref
       simp only [beq_iff_eq, beq_eq_false_iff_ne, bne_iff_ne, bne_eq_false_iff_eq, Bool.not_eq_true', Bool.not_eq_false', decide_eq_true_iff, decide_eq_false_iff_not, nil_len, zN_iff, ne_eq, Bool.false_eq_true, iff_false, false_iff, not_and, not_or, true_iff, iff_true, Bool.not_not, Decidable.not_not] at * <;> omega
      ·skip
       refine gr_no rfl rfl rfl ?_
       refine gr_no rfl rfl rfl ?_
       refine gr_no rfl rfl rfl ?_
       refine gr_no rfl rfl rfl ?_
       (first | refine gpt rfl rfl rfl rfl rfl ?_ | refine gpf rfl rfl rfl rfl rfl ?_)
       refine ga rfl rfl rfl rfl ?_
       refine gr_nil (gk_then ?_)
       refine gc_ret ?_
       refine gk_result (L' := L) (.inl rfl) _ (res1 rfl rfl) sbl gle ?_
       refine ⟨?_, rfl, rfl⟩
       congr 1
       rw [Bool.eq_iff_iff, goodDraft_iff]
       have hzl := zN_le d.ref
       simp only [beq_iff_eq, beq_eq_false_iff_ne, bne_iff_ne, bne_eq_false_iff_eq, Bool.not_eq_true', Bool.not_eq_false', decide_eq_true_iff, decide_eq_false_iff_not, nil_len, zN_iff, ne_eq, Bool.false_eq_true, iff_false, false_iff, not_and, not_or, true_iff, iff_true, Bool.not_not, Decidable.not_not] at * <;> omega
     ·skip
      refine gr_no rfl rfl rfl ?_
      refine gr_no rfl rfl rfl ?_
      refine gr_no rfl rfl rfl ?_
      refine gr_no rfl rfl rfl ?_
      (first | refine gpt rfl rfl rfl rfl rfl ?_ | refine gpf rfl rfl rfl rfl rfl ?_)
      refine gm rfl rfl rfl rfl ?_
      refine gr_no rfl rfl rfl ?_
      refine gr_no rfl rfl rfl ?_
      refine gr_no rfl rfl rfl ?_
      refine gr_no rfl rfl rfl ?_
      (first | refine gpt rfl rfl rfl rfl rfl ?_ | refine gpf rfl rfl rfl rfl rfl ?_)
      refine ga rfl rfl rfl rfl ?_
      refine gr_nil (gk_then ?_)
      refine gc_ret ?_
      refine gk_result (L' := L) (.inl rfl) _ (res1 rfl rfl) sbl gle ?_
      refine ⟨?_, rfl, rfl⟩
      congr 1
      rw [Bool.eq_iff_iff, goodDraft_iff]
      have hzl := zN_le d.ref
      simp only [beq_iff_eq, beq_eq_false_iff_ne, bne_iff_ne, bne_eq_false_iff_eq, Bool.not_eq_true', Bool.not_eq_false', decide_eq_true_iff, decide_eq_false_iff_not, nil_len, zN_iff, ne_eq, Bool.false_eq_true, iff_false, false_iff, not_and, not_or, true_iff, iff_true, Bool.not_not, Decidable.not_not] at * <;> omega
   ·skip
    refine gc_seq (gc_seqr [(.mv, 0), (.mv, 1)] rfl ?_)
    refine gr_rd rfl rfl rfl (rd_eql rfl rfl) ?_
    refine ga rfl rfl rfl rfl ?_
    refine gr_nil (gk_then ?_)
    refine gc_cond rfl (fun hc9 => ?_) (fun hc9 => ?_)
    ·skip
     refine gc_skip ?_
     refine gk_inBlock ?_
     refine gk_then ?_
     refine gc_seq (gc_seqr [(.mv, 0), (.mv, 1), (.mv, 2), (.mv, 3), (.mv, 4), (.mv, 5), (.mv, 6), (.mv, 7), (.mv, 8), (.mv, 9), (.mv, 10), (.mv, 11), (.mv, 12), (.mv, 13), (.mv, 14), (.mv, 15)] rfl ?_)
     refine gr_rd rfl rfl rfl (rd_fieldAddr Tryd.fa36_1 rfl) ?_
     refine gr_rd rfl rfl rfl (rd_load1 Tryd.to9 rfl cel at1) ?_
     refine gr_rd rfl rfl rfl (rd_strNeL rfl rfl) ?_
     refine gm rfl rfl rfl rfl ?_
     refine gr_split rfl (fun hg3 => ?_) (fun hg3 => ?_)
     ·skip
      refine gr_rd rfl rfl rfl (rd_fieldAddr Tryd.fa36_1 rfl) ?_
      refine gr_rd rfl rfl rfl (rd_load1 Tryd.to9 rfl cel at1) ?_
      refine gr_rd rfl rfl rfl (rd_lenL Tryd.underlying9 rfl) ?_
      refine gr_rd rfl rfl rfl (rd_leq rfl rfl) ?_
      (first | refine gpt rfl rfl rfl rfl rfl ?_ | refine gpf rfl rfl rfl rfl rfl ?_)
      refine gm rfl rfl rfl rfl ?_
      refine gr_split rfl (fun hg9 => ?_) (fun hg9 => ?_)
      ·skip
       refine gr_rd rfl rfl rfl (rd_fieldAddr Tryd.fa36_2 rfl) ?_
       refine gr_rd rfl rfl rfl (rd_load1 Tryd.to9 rfl cel at1) ?_
       refine gr_rd rfl rfl rfl (rd_lenL Tryd.underlying9 rfl) ?_
       refine gr_rd rfl rfl rfl (rd_leq rfl rfl) ?_
       (first | refine gpt rfl rfl rfl rfl rfl ?_ | refine gpf rfl rfl rfl rfl rfl ?_)
       refine ga rfl rfl rfl rfl ?_
       refine gr_nil (gk_then ?_)
       refine gc_ret ?_
       refine gk_result (L' := L) (.inl rfl) _ (res1 rfl rfl) sbl gle ?_
       refine ⟨?_, rfl, rfl⟩
       congr 1
       rw [Bool.eq_iff_iff, goodDraft_iff]
       have hzl := zN_le d.ref
       simp only [beq_iff_eq, beq_eq_false_iff_ne, bne_iff_ne, bne_eq_false_iff_eq, Bool.not_eq_true', Bool.not_eq_false', decide_eq_true_iff, decide_eq_false_iff_not, nil_len, zN_iff, ne_eq, Bool.false_eq_true, iff_false, false_iff, not_and, not_or, true_iff, iff_true, Bool.not_not, Decidable.not_not] at * <;> omega
      ·skip
       refine gr_no rfl rfl rfl ?_
       refine gr_no rfl rfl rfl ?_
       refine gr_no rfl rfl rfl ?_
       refine gr_no rfl rfl rfl ?_
       (first | refine gpt rfl rfl rfl rfl rfl ?_ | refine gpf rfl rfl rfl rfl rfl ?_)
       refine ga rfl rfl rfl rfl ?_
       refine gr_nil (gk_then ?_)
       refine gc_ret ?_
       refine gk_result (L' := L) (.inl rfl) _ (res1 rfl rfl) sbl gle ?_
       refine ⟨?_, rfl, rfl⟩
       congr 1
       rw [Bool.eq_iff_iff, goodDraft_iff]
       have hzl := zN_le d.ref
       simp only [beq_iff_eq, beq_eq_false_iff_ne, bne_iff_ne, bne_eq_false_iff_eq, Bool.not_eq_true', Bool.not_eq_false', decide_eq_true_iff, decide_eq_false_iff_not, nil_len, zN_iff, ne_eq, Bool.false_eq_true, iff_false, false_iff, not_and, not_or, true_iff, iff_true, Bool.not_not, Decidable.not_not] at * <;> omega
     ·skip
      refine gr_no rfl rfl rfl ?_
      refine gr_no rfl rfl rfl ?_
      refine gr_no rfl rfl rfl ?_
      refine gr_no rfl rfl rfl ?_
      (first | refine gpt rfl rfl rfl rfl rfl ?_ | refine gpf rfl rfl rfl rfl rfl ?_)
      refine gm rfl rfl rfl rfl ?_
      refine gr_no rfl rfl rfl ?_
      refine gr_no rfl rfl rfl ?_
      refine gr_no rfl rfl rfl ?_
      refine gr_no rfl rfl rfl ?_
      (first | refine gpt rfl rfl rfl rfl rfl ?_ | refine gpf rfl rfl rfl rfl rfl ?_)
      refine ga rfl rfl rfl rfl ?_
      refine gr_nil (gk_then ?_)
      refine gc_ret ?_
      refine gk_result (L' := L) (.inl rfl) _ (res1 rfl rfl) sbl gle ?_
      refine ⟨?_, rfl, rfl⟩
      congr 1
      rw [Bool.eq_iff_iff, goodDraft_iff]
      have hzl := zN_le d.ref
      simp only [beq_iff_eq, beq_eq_false_iff_ne, bne_iff_ne, bne_eq_false_iff_eq, Bool.not_eq_true', Bool.not_eq_false', decide_eq_true_iff, decide_eq_false_iff_not, nil_len, zN_iff, ne_eq, Bool.false_eq_true, iff_false, false_iff, not_and, not_or, true_iff, iff_true, Bool.not_not, Decidable.not_not] at * <;> omega
    ·skip
     refine gc_seq (gc_seqr [(.mv, 0), (.mv, 1)] rfl ?_)
     refine gr_rd rfl rfl rfl (rd_eql rfl rfl) ?_
     refine ga rfl rfl rfl rfl ?_
     refine gr_nil (gk_then ?_)
     refine gc_cond rfl (fun hc10 => ?_) (fun hc10 => ?_)
     ·skip
      refine gc_seq (gc_seqr [(.mv, 0), (.mv, 1), (.mv, 2), (.mv, 3), (.mv, 4), (.mv, 5), (.mv, 6)] rfl ?_)
      refine gm rfl rfl rfl rfl ?_
      refine gr_rd rfl rfl rfl (rd_not rfl) ?_
      refine gm rfl rfl rfl rfl ?_
      refine gr_split rfl (fun hg2 => ?_) (fun hg2 => ?_)
      ·skip
       refine gr_no rfl rfl rfl ?_
       refine gr_no rfl rfl rfl ?_
       refine gr_no rfl rfl rfl ?_
       (first | refine gpt rfl rfl rfl rfl rfl ?_ | refine gpf rfl rfl rfl rfl rfl ?_)
       refine gr_nil (gk_then ?_)
       refine gc_yes rfl ?_
       refine gc_seq (gc_seqr [(.mv, 0)] rfl ?_)
       refine ga rfl rfl rfl rfl ?_
       refine gr_nil (gk_then ?_)
       refine gc_ret ?_
       refine gk_ret_inBlock ?_
       refine gk_ret_then ?_
       refine gk_result (L' := L) (.inl rfl) _ (res1 rfl rfl) sbl gle ?_
       refine ⟨?_, rfl, rfl⟩
       congr 1
       rw [Bool.eq_iff_iff, goodDraft_iff]
       have hzl := zN_le d.ref
       simp only [beq_iff_eq, beq_eq_false_iff_ne, bne_iff_ne, bne_eq_false_iff_eq, Bool.not_eq_true', Bool.not_eq_false', decide_eq_true_iff, decide_eq_false_iff_not, nil_len, zN_iff, ne_eq, Bool.false_eq_true, iff_false, false_iff, not_and, not_or, true_iff, iff_true, Bool.not_not, Decidable.not_not] at * <;> omega
      ·skip
       refine gr_rd rfl rfl rfl (rd_fieldAddr Tryd.fa36_2 rfl) ?_
       refine gr_rd rfl rfl rfl (rd_load1 Tryd.to9 rfl cel at1) ?_
       refine gr_rd rfl rfl rfl (rd_strNeL rfl rfl) ?_
       (first | refine gpt rfl rfl rfl rfl rfl ?_ | refine gpf rfl rfl rfl rfl rfl ?_)
       refine gr_nil (gk_then ?_)
       refine gc_cond rfl (fun hc11 => ?_) (fun hc11 => ?_)
       ·skip
        refine gc_seq (gc_seqr [(.mv, 0)] rfl ?_)
        refine ga rfl rfl rfl rfl ?_
        refine gr_nil (gk_then ?_)
        refine gc_ret ?_
        refine gk_ret_inBlock ?_
        refine gk_ret_then ?_
        refine gk_result (L' := L) (.inl rfl) _ (res1 rfl rfl) sbl gle ?_
        refine ⟨?_, rfl, rfl⟩
        congr 1
        rw [Bool.eq_iff_iff, goodDraft_iff]
        have hzl := zN_le d.ref
        simp only [beq_iff_eq, beq_eq_false_iff_ne, bne_iff_ne, bne_eq_false_iff_eq, Bool.not_eq_true', Bool.not_eq_false', decide_eq_true_iff, decide_eq_false_iff_not, nil_len, zN_iff, ne_eq, Bool.false_eq_true, iff_false, false_iff, not_and, not_or, true_iff, iff_true, Bool.not_not, Decidable.not_not] at * <;> omega
       ·skip
        refine gc_skip ?_
        refine gk_inBlock ?_
        refine gk_then ?_
        refine gc_seq (gc_seqr [(.mv, 0), (.mv, 1), (.mv, 2), (.mv, 3), (.mv, 4), (.mv, 5), (.mv, 6), (.mv, 7), (.mv, 8), (.mv, 9), (.mv, 10), (.mv, 11), (.mv, 12), (.mv, 13), (.mv, 14), (.mv, 15)] rfl ?_)
        refine gr_rd rfl rfl rfl (rd_fieldAddr Tryd.fa36_1 rfl) ?_
        refine gr_rd rfl rfl rfl (rd_load1 Tryd.to9 rfl cel at1) ?_
        refine gr_rd rfl rfl rfl (rd_strNeL rfl rfl) ?_
        refine gm rfl rfl rfl rfl ?_
        refine gr_split rfl (fun hg3 => ?_) (fun hg3 => ?_)
        ·skip
         refine gr_rd rfl rfl rfl (rd_fieldAddr Tryd.fa36_1 rfl) ?_
         refine gr_rd rfl rfl rfl (rd_load1 Tryd.to9 rfl cel at1) ?_
         refine gr_rd rfl rfl rfl (rd_lenL Tryd.underlying9 rfl) ?_
         refine gr_rd rfl rfl rfl (rd_leq rfl rfl) ?_
         (first | refine gpt rfl rfl rfl rfl rfl ?_ | refine gpf rfl rfl rfl rfl rfl ?_)
         refine gm rfl rfl rfl rfl ?_
         refine gr_split rfl (fun hg9 => ?_) (fun hg9 => ?_)
         ·skip
          refine gr_rd rfl rfl rfl (rd_fieldAddr Tryd.fa36_2 rfl) ?_
          refine gr_rd rfl rfl rfl (rd_load1 Tryd.to9 rfl cel at1) ?_
          refine gr_rd rfl rfl rfl (rd_lenL Tryd.underlying9 rfl) ?_
          refine gr_rd rfl rfl rfl (rd_leq rfl rfl) ?_
          (first | refine gpt rfl rfl rfl rfl rfl ?_ | refine gpf rfl rfl rfl rfl rfl ?_)
          refine ga rfl rfl rfl rfl ?_
          refine gr_nil (gk_then ?_)
          refine gc_ret ?_
          refine gk_result (L' := L) (.inl rfl) _ (res1 rfl rfl) sbl gle ?_
          refine ⟨?_, rfl, rfl⟩
          congr 1
          rw [Bool.eq_iff_iff, goodDraft_iff]
          have hzl := zN_le d.ref
          simp only [beq_iff_eq, beq_eq_false_iff_ne, bne_iff_ne, bne_eq_false_iff_eq, Bool.not_eq_true', Bool.not_eq_false', decide_eq_true_iff, decide_eq_false_iff_not, nil_len, zN_iff, ne_eq, Bool.false_eq_true, iff_false, false_iff, not_and, not_or, true_iff, iff_true, Bool.not_not, Decidable.not_not] at * <;> omega
         ·skip
          refine gr_no rfl rfl rfl ?_
          refine gr_no rfl rfl rfl ?_
          refine gr_no rfl rfl rfl ?_
          refine gr_no rfl rfl rfl ?_
          (first | refine gpt rfl rfl rfl rfl rfl ?_ | refine gpf rfl rfl rfl rfl rfl ?_)
          refine ga rfl rfl rfl rfl ?_
          refine gr_nil (gk_then ?_)
          refine gc_ret ?_
          refine gk_result (L' := L) (.inl rfl) _ (res1 rfl rfl) sbl gle ?_
          refine ⟨?_, rfl, rfl⟩
          congr 1
          rw [Bool.eq_iff_iff, goodDraft_iff]
          have hzl := zN_le d.ref
          simp only [beq_iff_eq, beq_eq_false_iff_ne, bne_iff_ne, bne_eq_false_iff_eq, Bool.not_eq_true', Bool.not_eq_false', decide_eq_true_iff, decide_eq_false_iff_not, nil_len, zN_iff, ne_eq, Bool.false_eq_true, iff_false, false_iff, not_and, not_or, true_iff, iff_true, Bool.not_not, Decidable.not_not] at * <;> omega
        ·skip
         refine gr_no rfl rfl rfl ?_
         refine gr_no rfl rfl rfl ?_
         refine gr_no rfl rfl rfl ?_
         refine gr_no rfl rfl rfl ?_
         (first | refine gpt rfl rfl rfl rfl rfl ?_ | refine gpf rfl rfl rfl rfl rfl ?_)
         refine gm rfl rfl rfl rfl ?_
         refine gr_no rfl rfl rfl ?_
         refine gr_no rfl rfl rfl ?_
         refine gr_no rfl rfl rfl ?_
         refine gr_no rfl rfl rfl ?_
         (first | refine gpt rfl rfl rfl rfl rfl ?_ | refine gpf rfl rfl rfl rfl rfl ?_)
         refine ga rfl rfl rfl rfl ?_
         refine gr_nil (gk_then ?_)
         refine gc_ret ?_
         refine gk_result (L' := L) (.inl rfl) _ (res1 rfl rfl) sbl gle ?_
         refine ⟨?_, rfl, rfl⟩
         congr 1
         rw [Bool.eq_iff_iff, goodDraft_iff]
         have hzl := zN_le d.ref
         simp only [beq_iff_eq, beq_eq_false_iff_ne, bne_iff_ne, bne_eq_false_iff_eq, Bool.not_eq_true', Bool.not_eq_false', decide_eq_true_iff, decide_eq_false_iff_not, nil_len, zN_iff, ne_eq, Bool.false_eq_true, iff_false, false_iff, not_and, not_or, true_iff, iff_true, Bool.not_not, Decidable.not_not] at * <;> omega
     ·skip
      refine gc_seq (gc_seqr [(.mv, 0)] rfl ?_)
      refine ga rfl rfl rfl rfl ?_
      refine gr_nil (gk_then ?_)
      refine gc_ret ?_
      refine gk_ret_inBlock ?_
      refine gk_ret_then ?_
      refine gk_result (L' := L) (.inl rfl) _ (res1 rfl rfl) sbl gle ?_
      refine ⟨?_, rfl, rfl⟩
      congr 1
      rw [Bool.eq_iff_iff, goodDraft_iff]
      have hzl := zN_le d.ref
      simp only [beq_iff_eq, beq_eq_false_iff_ne, bne_iff_ne, bne_eq_false_iff_eq, Bool.not_eq_true', Bool.not_eq_false', decide_eq_true_iff, decide_eq_false_iff_not, nil_len, zN_iff, ne_eq, Bool.false_eq_true, iff_false, false_iff, not_and, not_or, true_iff, iff_true, Bool.not_not, Decidable.not_not] at * <;> omega
  ·skip
   refine gc_seqr [(.mv, 0), (.mv, 1)] rfl ?_
   refine gr_rd rfl rfl rfl (rd_eql rfl rfl) ?_
   refine ga rfl rfl rfl rfl ?_
   refine gr_nil (gk_then ?_)
   refine gc_cond rfl (fun hc12 => ?_) (fun hc12 => ?_)
   ·skip
    refine gc_seq (gc_seqr [(.mv, 0)] rfl ?_)
    refine gm rfl rfl rfl rfl ?_
    refine gr_nil (gk_then ?_)
    refine gc_cond rfl (fun hc13 => ?_) (fun hc13 => ?_)
    ·skip
     refine gc_seq (gc_seqr [(.mv, 0)] rfl ?_)
     refine ga rfl rfl rfl rfl ?_
     refine gr_nil (gk_then ?_)
     refine gc_ret ?_
     refine gk_ret_inBlock ?_
     refine gk_ret_then ?_
     refine gk_result (L' := L) (.inl rfl) _ (res1 rfl rfl) sbl gle ?_
     refine ⟨?_, rfl, rfl⟩
     congr 1
     rw [Bool.eq_iff_iff, goodDraft_iff]
     have hzl := zN_le d.ref
     simp only [beq_iff_eq, beq_eq_false_iff_ne, bne_iff_ne, bne_eq_false_iff_eq, Bool.not_eq_true', Bool.not_eq_false', decide_eq_true_iff, decide_eq_false_iff_not, nil_len, zN_iff, ne_eq, Bool.false_eq_true, iff_false, false_iff, not_and, not_or, true_iff, iff_true, Bool.not_not, Decidable.not_not] at * <;> omega
    ·skip
     refine gc_skip ?_
     refine gk_inBlock ?_
     refine gk_then ?_
     refine gc_seq (gc_seqr [(.mv, 0), (.mv, 1), (.mv, 2), (.mv, 3), (.mv, 4), (.mv, 5), (.mv, 6), (.mv, 7), (.mv, 8), (.mv, 9), (.mv, 10), (.mv, 11), (.mv, 12), (.mv, 13), (.mv, 14), (.mv, 15)] rfl ?_)
     refine gr_rd rfl rfl rfl (rd_fieldAddr Tryd.fa36_1 rfl) ?_
     refine gr_rd rfl rfl rfl (rd_load1 Tryd.to9 rfl cel at1) ?_
     refine gr_rd rfl rfl rfl (rd_strNeL rfl rfl) ?_
     refine gm rfl rfl rfl rfl ?_
     refine gr_split rfl (fun hg3 => ?_) (fun hg3 => ?_)
     ·skip
      refine gr_rd rfl rfl rfl (rd_fieldAddr Tryd.fa36_1 rfl) ?_
      refine gr_rd rfl rfl rfl (rd_load1 Tryd.to9 rfl cel at1) ?_
      refine gr_rd rfl rfl rfl (rd_lenL Tryd.underlying9 rfl) ?_
      refine gr_rd rfl rfl rfl (rd_leq rfl rfl) ?_
      (first | refine gpt rfl rfl rfl rfl rfl ?_ | refine gpf rfl rfl rfl rfl rfl ?_)
      refine gm rfl rfl rfl rfl ?_
      refine gr_split rfl (fun hg9 => ?_) (fun hg9 => ?_)
      ·skip
       refine gr_rd rfl rfl rfl (rd_fieldAddr Tryd.fa36_2 rfl) ?_
       refine gr_rd rfl rfl rfl (rd_load1 Tryd.to9 rfl cel at1) ?_
       refine gr_rd rfl rfl rfl (rd_lenL Tryd.underlying9 rfl) ?_
       refine gr_rd rfl rfl rfl (rd_leq rfl rfl) ?_
       (first | refine gpt rfl rfl rfl rfl rfl ?_ | refine gpf rfl rfl rfl rfl rfl ?_)
       refine ga rfl rfl rfl rfl ?_
       refine gr_nil (gk_then ?_)
       refine gc_ret ?_
       refine gk_result (L' := L) (.inl rfl) _ (res1 rfl rfl) sbl gle ?_
       refine ⟨?_, rfl, rfl⟩
       congr 1
       rw [Bool.eq_iff_iff, goodDraft_iff]
       have hzl := zN_le d.ref
       simp only [beq_iff_eq, beq_eq_false_iff_ne, bne_iff_ne, bne_eq_false_iff_eq, Bool.not_eq_true', Bool.not_eq_false', decide_eq_true_iff, decide_eq_false_iff_not, nil_len, zN_iff, ne_eq, Bool.false_eq_true, iff_false, false_iff, not_and, not_or, true_iff, iff_true, Bool.not_not, Decidable.not_not] at * <;> omega
      ·skip
       refine gr_no rfl rfl rfl ?_
       refine gr_no rfl rfl rfl ?_
       refine gr_no rfl rfl rfl ?_
       refine gr_no rfl rfl rfl ?_
       (first | refine gpt rfl rfl rfl rfl rfl ?_ | refine gpf rfl rfl rfl rfl rfl ?_)
       refine ga rfl rfl rfl rfl ?_
       refine gr_nil (gk_then ?_)
       refine gc_ret ?_
       refine gk_result (L' := L) (.inl rfl) _ (res1 rfl rfl) sbl gle ?_
       refine ⟨?_, rfl, rfl⟩
       congr 1
       rw [Bool.eq_iff_iff, goodDraft_iff]
       have hzl := zN_le d.ref
       simp only [beq_iff_eq, beq_eq_false_iff_ne, bne_iff_ne, bne_eq_false_iff_eq, Bool.not_eq_true', Bool.not_eq_false', decide_eq_true_iff, decide_eq_false_iff_not, nil_len, zN_iff, ne_eq, Bool.false_eq_true, iff_false, false_iff, not_and, not_or, true_iff, iff_true, Bool.not_not, Decidable.not_not] at * <;> omega
     ·skip
      refine gr_no rfl rfl rfl ?_
      refine gr_no rfl rfl rfl ?_
      refine gr_no rfl rfl rfl ?_
      refine gr_no rfl rfl rfl ?_
      (first | refine gpt rfl rfl rfl rfl rfl ?_ | refine gpf rfl rfl rfl rfl rfl ?_)
      refine gm rfl rfl rfl rfl ?_
      refine gr_no rfl rfl rfl ?_
      refine gr_no rfl rfl rfl ?_
      refine gr_no rfl rfl rfl ?_
      refine gr_no rfl rfl rfl ?_
      (first | refine gpt rfl rfl rfl rfl rfl ?_ | refine gpf rfl rfl rfl rfl rfl ?_)
      refine ga rfl rfl rfl rfl ?_
      refine gr_nil (gk_then ?_)
      refine gc_ret ?_
      refine gk_result (L' := L) (.inl rfl) _ (res1 rfl rfl) sbl gle ?_
      refine ⟨?_, rfl, rfl⟩
      congr 1
      rw [Bool.eq_iff_iff, goodDraft_iff]
      have hzl := zN_le d.ref
      simp only [beq_iff_eq, beq_eq_false_iff_ne, bne_iff_ne, bne_eq_false_iff_eq, Bool.not_eq_true', Bool.not_eq_false', decide_eq_true_iff, decide_eq_false_iff_not, nil_len, zN_iff, ne_eq, Bool.false_eq_true, iff_false, false_iff, not_and, not_or, true_iff, iff_true, Bool.not_not, Decidable.not_not] at * <;> omega
   ·skip
    refine gc_seq (gc_seqr [(.mv, 0), (.mv, 1)] rfl ?_)
    refine gr_rd rfl rfl rfl (rd_eql rfl rfl) ?_
    refine ga rfl rfl rfl rfl ?_
    refine gr_nil (gk_then ?_)
    refine gc_cond rfl (fun hc14 => ?_) (fun hc14 => ?_)
    ·skip
     refine gc_skip ?_
     refine gk_inBlock ?_
     refine gk_then ?_
     refine gc_seq (gc_seqr [(.mv, 0), (.mv, 1), (.mv, 2), (.mv, 3), (.mv, 4), (.mv, 5), (.mv, 6), (.mv, 7), (.mv, 8), (.mv, 9), (.mv, 10), (.mv, 11), (.mv, 12), (.mv, 13), (.mv, 14), (.mv, 15)] rfl ?_)
     refine gr_rd rfl rfl rfl (rd_fieldAddr Tryd.fa36_1 rfl) ?_
     refine gr_rd rfl rfl rfl (rd_load1 Tryd.to9 rfl cel at1) ?_
     refine gr_rd rfl rfl rfl (rd_strNeL rfl rfl) ?_
     refine gm rfl rfl rfl rfl ?_
     refine gr_split rfl (fun hg3 => ?_) (fun hg3 => ?_)
     ·skip
      refine gr_rd rfl rfl rfl (rd_fieldAddr Tryd.fa36_1 rfl) ?_
      refine gr_rd rfl rfl rfl (rd_load1 Tryd.to9 rfl cel at1) ?_
      refine gr_rd rfl rfl rfl (rd_lenL Tryd.underlying9 rfl) ?_
      refine gr_rd rfl rfl rfl (rd_leq rfl rfl) ?_
      (first | refine gpt rfl rfl rfl rfl rfl ?_ | refine gpf rfl rfl rfl rfl rfl ?_)
      refine gm rfl rfl rfl rfl ?_
      refine gr_split rfl (fun hg9 => ?_) (fun hg9 => ?_)
      ·skip
       refine gr_rd rfl rfl rfl (rd_fieldAddr Tryd.fa36_2 rfl) ?_
       refine gr_rd rfl rfl rfl (rd_load1 Tryd.to9 rfl cel at1) ?_
       refine gr_rd rfl rfl rfl (rd_lenL Tryd.underlying9 rfl) ?_
       refine gr_rd rfl rfl rfl (rd_leq rfl rfl) ?_
       (first | refine gpt rfl rfl rfl rfl rfl ?_ | refine gpf rfl rfl rfl rfl rfl ?_)
       refine ga rfl rfl rfl rfl ?_
       refine gr_nil (gk_then ?_)
       refine gc_ret ?_
       refine gk_result (L' := L) (.inl rfl) _ (res1 rfl rfl) sbl gle ?_
       refine ⟨?_, rfl, rfl⟩
       congr 1
       rw [Bool.eq_iff_iff, goodDraft_iff]
       have hzl := zN_le d.ref
       simp only [beq_iff_eq, beq_eq_false_iff_ne, bne_iff_ne, bne_eq_false_iff_eq, Bool.not_eq_true', Bool.not_eq_false', decide_eq_true_iff, decide_eq_false_iff_not, nil_len, zN_iff, ne_eq, Bool.false_eq_true, iff_false, false_iff, not_and, not_or, true_iff, iff_true, Bool.not_not, Decidable.not_not] at * <;> omega
      ·skip
       refine gr_no rfl rfl rfl ?_
       refine gr_no rfl rfl rfl ?_
       refine gr_no rfl rfl rfl ?_
       refine gr_no rfl rfl rfl ?_
       (first | refine gpt rfl rfl rfl rfl rfl ?_ | refine gpf rfl rfl rfl rfl rfl ?_)
       refine ga rfl rfl rfl rfl ?_
       refine gr_nil (gk_then ?_)
       refine gc_ret ?_
       refine gk_result (L' := L) (.inl rfl) _ (res1 rfl rfl) sbl gle ?_
       refine ⟨?_, rfl, rfl⟩
       congr 1
       rw [Bool.eq_iff_iff, goodDraft_iff]
       have hzl := zN_le d.ref
       simp only [beq_iff_eq, beq_eq_false_iff_ne, bne_iff_ne, bne_eq_false_iff_eq, Bool.not_eq_true', Bool.not_eq_false', decide_eq_true_iff, decide_eq_false_iff_not, nil_len, zN_iff, ne_eq, Bool.false_eq_true, iff_false, false_iff, not_and, not_or, true_iff, iff_true, Bool.not_not, Decidable.not_not] at * <;> omega
     ·skip
      refine gr_no rfl rfl rfl ?_
      refine gr_no rfl rfl rfl ?_
      refine gr_no rfl rfl rfl ?_
      refine gr_no rfl rfl rfl ?_
      (first | refine gpt rfl rfl rfl rfl rfl ?_ | refine gpf rfl rfl rfl rfl rfl ?_)
      refine gm rfl rfl rfl rfl ?_
      refine gr_no rfl rfl rfl ?_
      refine gr_no rfl rfl rfl ?_
      refine gr_no rfl rfl rfl ?_
      refine gr_no rfl rfl rfl ?_
      (first | refine gpt rfl rfl rfl rfl rfl ?_ | refine gpf rfl rfl rfl rfl rfl ?_)
      refine ga rfl rfl rfl rfl ?_
      refine gr_nil (gk_then ?_)
      refine gc_ret ?_
      refine gk_result (L' := L) (.inl rfl) _ (res1 rfl rfl) sbl gle ?_
      refine ⟨?_, rfl, rfl⟩
      congr 1
      rw [Bool.eq_iff_iff, goodDraft_iff]
      have hzl := zN_le d.ref
      simp only [beq_iff_eq, beq_eq_false_iff_ne, bne_iff_ne, bne_eq_false_iff_eq, Bool.not_eq_true', Bool.not_eq_false', decide_eq_true_iff, decide_eq_false_iff_not, nil_len, zN_iff, ne_eq, Bool.false_eq_true, iff_false, false_iff, not_and, not_or, true_iff, iff_true, Bool.not_not, Decidable.not_not] at * <;> omega
    ·skip
     refine gc_seq (gc_seqr [(.mv, 0), (.mv, 1)] rfl ?_)
     refine gr_rd rfl rfl rfl (rd_eql rfl rfl) ?_
     refine ga rfl rfl rfl rfl ?_
     refine gr_nil (gk_then ?_)
     refine gc_cond rfl (fun hc15 => ?_) (fun hc15 => ?_)
     ·skip
      refine gc_seq (gc_seqr [(.mv, 0), (.mv, 1), (.mv, 2), (.mv, 3), (.mv, 4), (.mv, 5), (.mv, 6)] rfl ?_)
      refine gm rfl rfl rfl rfl ?_
      refine gr_rd rfl rfl rfl (rd_not rfl) ?_
      refine gm rfl rfl rfl rfl ?_
      refine gr_split rfl (fun hg2 => ?_) (fun hg2 => ?_)
      ·skip
       refine gr_no rfl rfl rfl ?_
       refine gr_no rfl rfl rfl ?_
       refine gr_no rfl rfl rfl ?_
       (first | refine gpt rfl rfl rfl rfl rfl ?_ | refine gpf rfl rfl rfl rfl rfl ?_)
       refine gr_nil (gk_then ?_)
       refine gc_yes rfl ?_
       refine gc_seq (gc_seqr [(.mv, 0)] rfl ?_)
       refine ga rfl rfl rfl rfl ?_
       refine gr_nil (gk_then ?_)
       refine gc_ret ?_
       refine gk_ret_inBlock ?_
       refine gk_ret_then ?_
       refine gk_result (L' := L) (.inl rfl) _ (res1 rfl rfl) sbl gle ?_
       refine ⟨?_, rfl, rfl⟩
       congr 1
       rw [Bool.eq_iff_iff, goodDraft_iff]
       have hzl := zN_le d.ref
       simp only [beq_iff_eq, beq_eq_false_iff_ne, bne_iff_ne, bne_eq_false_iff_eq, Bool.not_eq_true', Bool.not_eq_false', decide_eq_true_iff, decide_eq_false_iff_not, nil_len, zN_iff, ne_eq, Bool.false_eq_true, iff_false, false_iff, not_and, not_or, true_iff, iff_true, Bool.not_not, Decidable.not_not] at * <;> omega
      ·skip
       refine gr_rd rfl rfl rfl (rd_fieldAddr Tryd.fa36_2 rfl) ?_
       refine gr_rd rfl rfl rfl (rd_load1 Tryd.to9 rfl cel at1) ?_
       refine gr_rd rfl rfl rfl (rd_strNeL rfl rfl) ?_
       (first | refine gpt rfl rfl rfl rfl rfl ?_ | refine gpf rfl rfl rfl rfl rfl ?_)
       refine gr_nil (gk_then ?_)
       refine gc_cond rfl (fun hc16 => ?_) (fun hc16 => ?_)
       ·skip
        refine gc_seq (gc_seqr [(.mv, 0)] rfl ?_)
        refine ga rfl rfl rfl rfl ?_
        refine gr_nil (gk_then ?_)
        refine gc_ret ?_
        refine gk_ret_inBlock ?_
        refine gk_ret_then ?_
        refine gk_result (L' := L) (.inl rfl) _ (res1 rfl rfl) sbl gle ?_
        refine ⟨?_, rfl, rfl⟩
        congr 1
        rw [Bool.eq_iff_iff, goodDraft_iff]
        have hzl := zN_le d.ref
        simp only [beq_iff_eq, beq_eq_false_iff_ne, bne_iff_ne, bne_eq_false_iff_eq, Bool.not_eq_true', Bool.not_eq_false', decide_eq_true_iff, decide_eq_false_iff_not, nil_len, zN_iff, ne_eq, Bool.false_eq_true, iff_false, false_iff, not_and, not_or, true_iff, iff_true, Bool.not_not, Decidable.not_not] at * <;> omega
       ·skip
        refine gc_skip ?_
        refine gk_inBlock ?_
        refine gk_then ?_
        refine gc_seq (gc_seqr [(.mv, 0), (.mv, 1), (.mv, 2), (.mv, 3), (.mv, 4), (.mv, 5), (.mv, 6), (.mv, 7), (.mv, 8), (.mv, 9), (.mv, 10), (.mv, 11), (.mv, 12), (.mv, 13), (.mv, 14), (.mv, 15)] rfl ?_)
        refine gr_rd rfl rfl rfl (rd_fieldAddr Tryd.fa36_1 rfl) ?_
        refine gr_rd rfl rfl rfl (rd_load1 Tryd.to9 rfl cel at1) ?_
        refine gr_rd rfl rfl rfl (rd_strNeL rfl rfl) ?_
        refine gm rfl rfl rfl rfl ?_
        refine gr_split rfl (fun hg3 => ?_) (fun hg3 => ?_)
        ·skip
         refine gr_rd rfl rfl rfl (rd_fieldAddr Tryd.fa36_1 rfl) ?_
         refine gr_rd rfl rfl rfl (rd_load1 Tryd.to9 rfl cel at1) ?_
         refine gr_rd rfl rfl rfl (rd_lenL Tryd.underlying9 rfl) ?_
         refine gr_rd rfl rfl rfl (rd_leq rfl rfl) ?_
         (first | refine gpt rfl rfl rfl rfl rfl ?_ | refine gpf rfl rfl rfl rfl rfl ?_)
         refine gm rfl rfl rfl rfl ?_
         refine gr_split rfl (fun hg9 => ?_) (fun hg9 => ?_)
         ·skip
          refine gr_rd rfl rfl rfl (rd_fieldAddr Tryd.fa36_2 rfl) ?_
          refine gr_rd rfl rfl rfl (rd_load1 Tryd.to9 rfl cel at1) ?_
          refine gr_rd rfl rfl rfl (rd_lenL Tryd.underlying9 rfl) ?_
          refine gr_rd rfl rfl rfl (rd_leq rfl rfl) ?_
          (first | refine gpt rfl rfl rfl rfl rfl ?_ | refine gpf rfl rfl rfl rfl rfl ?_)
          refine ga rfl rfl rfl rfl ?_
          refine gr_nil (gk_then ?_)
          refine gc_ret ?_
          refine gk_result (L' := L) (.inl rfl) _ (res1 rfl rfl) sbl gle ?_
          refine ⟨?_, rfl, rfl⟩
          congr 1
          rw [Bool.eq_iff_iff, goodDraft_iff]
          have hzl := zN_le d.ref
          simp only [beq_iff_eq, beq_eq_false_iff_ne, bne_iff_ne, bne_eq_false_iff_eq, Bool.not_eq_true', Bool.not_eq_false', decide_eq_true_iff, decide_eq_false_iff_not, nil_len, zN_iff, ne_eq, Bool.false_eq_true, iff_false, false_iff, not_and, not_or, true_iff, iff_true, Bool.not_not, Decidable.not_not] at * <;> omega
         ·skip
          refine gr_no rfl rfl rfl ?_
          refine gr_no rfl rfl rfl ?_
          refine gr_no rfl rfl rfl ?_
          refine gr_no rfl rfl rfl ?_
          (first | refine gpt rfl rfl rfl rfl rfl ?_ | refine gpf rfl rfl rfl rfl rfl ?_)
          refine ga rfl rfl rfl rfl ?_
          refine gr_nil (gk_then ?_)
          refine gc_ret ?_
          refine gk_result (L' := L) (.inl rfl) _ (res1 rfl rfl) sbl gle ?_
          refine ⟨?_, rfl, rfl⟩
          congr 1
          rw [Bool.eq_iff_iff, goodDraft_iff]
          have hzl := zN_le d.ref
          simp only [beq_iff_eq, beq_eq_false_iff_ne, bne_iff_ne, bne_eq_false_iff_eq, Bool.not_eq_true', Bool.not_eq_false', decide_eq_true_iff, decide_eq_false_iff_not, nil_len, zN_iff, ne_eq, Bool.false_eq_true, iff_false, false_iff, not_and, not_or, true_iff, iff_true, Bool.not_not, Decidable.not_not] at * <;> omega
        ·skip
         refine gr_no rfl rfl rfl ?_
         refine gr_no rfl rfl rfl ?_
         refine gr_no rfl rfl rfl ?_
         refine gr_no rfl rfl rfl ?_
         (first | refine gpt rfl rfl rfl rfl rfl ?_ | refine gpf rfl rfl rfl rfl rfl ?_)
         refine gm rfl rfl rfl rfl ?_
         refine gr_no rfl rfl rfl ?_
         refine gr_no rfl rfl rfl ?_
         refine gr_no rfl rfl rfl ?_
         refine gr_no rfl rfl rfl ?_
         (first | refine gpt rfl rfl rfl rfl rfl ?_ | refine gpf rfl rfl rfl rfl rfl ?_)
         refine ga rfl rfl rfl rfl ?_
         refine gr_nil (gk_then ?_)
         refine gc_ret ?_
         refine gk_result (L' := L) (.inl rfl) _ (res1 rfl rfl) sbl gle ?_
         refine ⟨?_, rfl, rfl⟩
         congr 1
         rw [Bool.eq_iff_iff, goodDraft_iff]
         have hzl := zN_le d.ref
         simp only [beq_iff_eq, beq_eq_false_iff_ne, bne_iff_ne, bne_eq_false_iff_eq, Bool.not_eq_true', Bool.not_eq_false', decide_eq_true_iff, decide_eq_false_iff_not, nil_len, zN_iff, ne_eq, Bool.false_eq_true, iff_false, false_iff, not_and, not_or, true_iff, iff_true, Bool.not_not, Decidable.not_not] at * <;> omega
     ·skip
      refine gc_seq (gc_seqr [(.mv, 0)] rfl ?_)
      refine ga rfl rfl rfl rfl ?_
      refine gr_nil (gk_then ?_)
      refine gc_ret ?_
      refine gk_ret_inBlock ?_
      refine gk_ret_then ?_
      refine gk_result (L' := L) (.inl rfl) _ (res1 rfl rfl) sbl gle ?_
      refine ⟨?_, rfl, rfl⟩
      congr 1
      rw [Bool.eq_iff_iff, goodDraft_iff]
      have hzl := zN_le d.ref
      simp only [beq_iff_eq, beq_eq_false_iff_ne, bne_iff_ne, bne_eq_false_iff_eq, Bool.not_eq_true', Bool.not_eq_false', decide_eq_true_iff, decide_eq_false_iff_not, nil_len, zN_iff, ne_eq, Bool.false_eq_true, iff_false, false_iff, not_and, not_or, true_iff, iff_true, Bool.not_not, Decidable.not_not] at * <;> omega
theorem rgoodDraft_cc (H : Gh) (L : Chunks) (d : Draft) :
    CC Tryd.prog 62 #[ag (encDraft d)] H L (fun v H' L' => v = .bool (goodDraft d) ∧ H = H' ∧ L = L') := by
 refine cc_of Tryd.func62 rfl (Nat.le_of_ble_eq_true rfl) ?_
 simp only [Tryd.ntmps62]
 refine gc_seq (gc_seqr [(.nm, 0), (.mv, 1)] rfl ?_)
 refine gr_nx rfl rfl rfl (nx_box rfl rfl) ?_; rintro _ _ _ _ ⟨b1, rfl, rfl, rfl⟩; refine ⟨trivial, ?_⟩
 refine ga rfl rfl rfl rfl ?_
 refine gr_nil (gk_then ?_)
 refine gc_seq ?_
 refine gc_seq (gc_seqr [(.mv, 0), (.mv, 1), (.mv, 2), (.mv, 3), (.mv, 4), (.mv, 5), (.mv, 6), (.mv, 7), (.mv, 8), (.mv, 9), (.mv, 10), (.mv, 11), (.mv, 12), (.mv, 13), (.mv, 14), (.mv, 15), (.mv, 16), (.mv, 17), (.mv, 18), (.mv, 19), (.mv, 20), (.mv, 21), (.mv, 22), (.mv, 23), (.mv, 24), (.mv, 25)] rfl ?_)
 refine gr_rd rfl rfl rfl (rd_fieldAddr Tryd.fa36_0 rfl) ?_
 refine gr_rd rfl rfl rfl (rd_load1 Tryd.to3 rfl cel at1) ?_
 refine gr_rd rfl rfl rfl (rd_lss rfl rfl) ?_
 refine gm rfl rfl rfl rfl ?_
 refine gr_split rfl (fun hg3 => ?_) (fun hg3 => ?_)
 ·skip
  refine gr_no rfl rfl rfl ?_
  refine gr_no rfl rfl rfl ?_
  refine gr_no rfl rfl rfl ?_
  (first | refine gpt rfl rfl rfl rfl rfl ?_ | refine gpf rfl rfl rfl rfl rfl ?_)
  refine gm rfl rfl rfl rfl ?_
  refine gr_no rfl rfl rfl ?_
  refine gr_no rfl rfl rfl ?_
  refine gr_no rfl rfl rfl ?_
  refine gr_no rfl rfl rfl ?_
  (first | refine gpt rfl rfl rfl rfl rfl ?_ | refine gpf rfl rfl rfl rfl rfl ?_)
  refine gm rfl rfl rfl rfl ?_
  refine gr_no rfl rfl rfl ?_
  refine gr_no rfl rfl rfl ?_
  refine gr_no rfl rfl rfl ?_
  refine gr_no rfl rfl rfl ?_
  (first | refine gpt rfl rfl rfl rfl rfl ?_ | refine gpf rfl rfl rfl rfl rfl ?_)
  refine gm rfl rfl rfl rfl ?_
  refine gr_no rfl rfl rfl ?_
  refine gr_no rfl rfl rfl ?_
  refine gr_no rfl rfl rfl ?_
  refine gr_no rfl rfl rfl ?_
  (first | refine gpt rfl rfl rfl rfl rfl ?_ | refine gpf rfl rfl rfl rfl rfl ?_)
  refine gr_nil (gk_then ?_)
  refine gc_yes rfl ?_
  refine gc_seq (gc_seqr [(.mv, 0)] rfl ?_)
  refine ga rfl rfl rfl rfl ?_
  refine gr_nil (gk_then ?_)
  refine gc_ret ?_
  refine gk_ret_then ?_
  refine gk_result (L' := L) (.inl rfl) _ (res1 rfl rfl) sbl gle ?_
  refine ⟨?_, rfl, rfl⟩
  congr 1
  rw [Bool.eq_iff_iff, goodDraft_iff]
  have hzl := zN_le d.ref
  simp only [beq_iff_eq, beq_eq_false_iff_ne, bne_iff_ne, bne_eq_false_iff_eq, Bool.not_eq_true', Bool.not_eq_false', decide_eq_true_iff, decide_eq_false_iff_not, nil_len, zN_iff, ne_eq, Bool.false_eq_true, iff_false, false_iff, not_and, not_or, true_iff, iff_true, Bool.not_not, Decidable.not_not] at * <;> omega
 ·skip
  refine gr_rd rfl rfl rfl (rd_fieldAddr Tryd.fa36_0 rfl) ?_
  refine gr_rd rfl rfl rfl (rd_load1 Tryd.to3 rfl cel at1) ?_
  refine gr_rd rfl rfl rfl (rd_gtr rfl rfl) ?_
  (first | refine gpt rfl rfl rfl rfl rfl ?_ | refine gpf rfl rfl rfl rfl rfl ?_)
  refine gm rfl rfl rfl rfl ?_
  refine gr_split rfl (fun hg8 => ?_) (fun hg8 => ?_)
  ·skip
   refine gr_no rfl rfl rfl ?_
   refine gr_no rfl rfl rfl ?_
   refine gr_no rfl rfl rfl ?_
   refine gr_no rfl rfl rfl ?_
   (first | refine gpt rfl rfl rfl rfl rfl ?_ | refine gpf rfl rfl rfl rfl rfl ?_)
   refine gm rfl rfl rfl rfl ?_
   refine gr_no rfl rfl rfl ?_
   refine gr_no rfl rfl rfl ?_
   refine gr_no rfl rfl rfl ?_
   refine gr_no rfl rfl rfl ?_
   (first | refine gpt rfl rfl rfl rfl rfl ?_ | refine gpf rfl rfl rfl rfl rfl ?_)
   refine gm rfl rfl rfl rfl ?_
   refine gr_no rfl rfl rfl ?_
   refine gr_no rfl rfl rfl ?_
   refine gr_no rfl rfl rfl ?_
   refine gr_no rfl rfl rfl ?_
   (first | refine gpt rfl rfl rfl rfl rfl ?_ | refine gpf rfl rfl rfl rfl rfl ?_)
   refine gr_nil (gk_then ?_)
   refine gc_yes rfl ?_
   refine gc_seq (gc_seqr [(.mv, 0)] rfl ?_)
   refine ga rfl rfl rfl rfl ?_
   refine gr_nil (gk_then ?_)
   refine gc_ret ?_
   refine gk_ret_then ?_
   refine gk_result (L' := L) (.inl rfl) _ (res1 rfl rfl) sbl gle ?_
   refine ⟨?_, rfl, rfl⟩
   congr 1
   rw [Bool.eq_iff_iff, goodDraft_iff]
   have hzl := zN_le d.ref
   simp only [beq_iff_eq, beq_eq_false_iff_ne, bne_iff_ne, bne_eq_false_iff_eq, Bool.not_eq_true', Bool.not_eq_false', decide_eq_true_iff, decide_eq_false_iff_not, nil_len, zN_iff, ne_eq, Bool.false_eq_true, iff_false, false_iff, not_and, not_or, true_iff, iff_true, Bool.not_not, Decidable.not_not] at * <;> omega
  ·skip
   refine gr_rd rfl rfl rfl (rd_fieldAddr Tryd.fa36_1 rfl) ?_
   refine gr_rd rfl rfl rfl (rd_load1 Tryd.to9 rfl cel at1) ?_
   refine gr_rd rfl rfl rfl (rd_lenL Tryd.underlying9 rfl) ?_
   refine gr_rd rfl rfl rfl (rd_lss rfl rfl) ?_
   (first | refine gpt rfl rfl rfl rfl rfl ?_ | refine gpf rfl rfl rfl rfl rfl ?_)
   refine gm rfl rfl rfl rfl ?_
   refine gr_split rfl (fun hg14 => ?_) (fun hg14 => ?_)
   ·skip
    refine gr_no rfl rfl rfl ?_
    refine gr_no rfl rfl rfl ?_
    refine gr_no rfl rfl rfl ?_
    refine gr_no rfl rfl rfl ?_
    (first | refine gpt rfl rfl rfl rfl rfl ?_ | refine gpf rfl rfl rfl rfl rfl ?_)
    refine gm rfl rfl rfl rfl ?_
    refine gr_no rfl rfl rfl ?_
    refine gr_no rfl rfl rfl ?_
    refine gr_no rfl rfl rfl ?_
    refine gr_no rfl rfl rfl ?_
    (first | refine gpt rfl rfl rfl rfl rfl ?_ | refine gpf rfl rfl rfl rfl rfl ?_)
    refine gr_nil (gk_then ?_)
    refine gc_yes rfl ?_
    refine gc_seq (gc_seqr [(.mv, 0)] rfl ?_)
    refine ga rfl rfl rfl rfl ?_
    refine gr_nil (gk_then ?_)
    refine gc_ret ?_
    refine gk_ret_then ?_
    refine gk_result (L' := L) (.inl rfl) _ (res1 rfl rfl) sbl gle ?_
    refine ⟨?_, rfl, rfl⟩
    congr 1
    rw [Bool.eq_iff_iff, goodDraft_iff]
    have hzl := zN_le d.ref
    simp only [beq_iff_eq, beq_eq_false_iff_ne, bne_iff_ne, bne_eq_false_iff_eq, Bool.not_eq_true', Bool.not_eq_false', decide_eq_true_iff, decide_eq_false_iff_not, nil_len, zN_iff, ne_eq, Bool.false_eq_true, iff_false, false_iff, not_and, not_or, true_iff, iff_true, Bool.not_not, Decidable.not_not] at * <;> omega
   ·skip
    refine gr_rd rfl rfl rfl (rd_fieldAddr Tryd.fa36_1 rfl) ?_
    refine gr_rd rfl rfl rfl (rd_load1 Tryd.to9 rfl cel at1) ?_
    refine gr_rd rfl rfl rfl (rd_lenL Tryd.underlying9 rfl) ?_
    refine gr_rd rfl rfl rfl (rd_gtr rfl rfl) ?_
    (first | refine gpt rfl rfl rfl rfl rfl ?_ | refine gpf rfl rfl rfl rfl rfl ?_)
    refine gm rfl rfl rfl rfl ?_
    refine gr_split rfl (fun hg20 => ?_) (fun hg20 => ?_)
    ·skip
     refine gr_no rfl rfl rfl ?_
     refine gr_no rfl rfl rfl ?_
     refine gr_no rfl rfl rfl ?_
     refine gr_no rfl rfl rfl ?_
     (first | refine gpt rfl rfl rfl rfl rfl ?_ | refine gpf rfl rfl rfl rfl rfl ?_)
     refine gr_nil (gk_then ?_)
     refine gc_yes rfl ?_
     refine gc_seq (gc_seqr [(.mv, 0)] rfl ?_)
     refine ga rfl rfl rfl rfl ?_
     refine gr_nil (gk_then ?_)
     refine gc_ret ?_
     refine gk_ret_then ?_
     refine gk_result (L' := L) (.inl rfl) _ (res1 rfl rfl) sbl gle ?_
     refine ⟨?_, rfl, rfl⟩
     congr 1
     rw [Bool.eq_iff_iff, goodDraft_iff]
     have hzl := zN_le d.ref
     simp only [beq_iff_eq, beq_eq_false_iff_ne, bne_iff_ne, bne_eq_false_iff_eq, Bool.not_eq_true', Bool.not_eq_false', decide_eq_true_iff, decide_eq_false_iff_not, nil_len, zN_iff, ne_eq, Bool.false_eq_true, iff_false, false_iff, not_and, not_or, true_iff, iff_true, Bool.not_not, Decidable.not_not] at * <;> omega
    ·skip
     refine gr_rd rfl rfl rfl (rd_fieldAddr Tryd.fa36_2 rfl) ?_
     refine gr_rd rfl rfl rfl (rd_load1 Tryd.to9 rfl cel at1) ?_
     refine gr_rd rfl rfl rfl (rd_lenL Tryd.underlying9 rfl) ?_
     refine gr_rd rfl rfl rfl (rd_gtr rfl rfl) ?_
     (first | refine gpt rfl rfl rfl rfl rfl ?_ | refine gpf rfl rfl rfl rfl rfl ?_)
     refine gr_nil (gk_then ?_)
     refine gc_cond rfl (fun hc0 => ?_) (fun hc0 => ?_)
     ·skip
      refine gc_seq (gc_seqr [(.mv, 0)] rfl ?_)
      refine ga rfl rfl rfl rfl ?_
      refine gr_nil (gk_then ?_)
      refine gc_ret ?_
      refine gk_ret_then ?_
      refine gk_result (L' := L) (.inl rfl) _ (res1 rfl rfl) sbl gle ?_
      refine ⟨?_, rfl, rfl⟩
      congr 1
      rw [Bool.eq_iff_iff, goodDraft_iff]
      have hzl := zN_le d.ref
      simp only [beq_iff_eq, beq_eq_false_iff_ne, bne_iff_ne, bne_eq_false_iff_eq, Bool.not_eq_true', Bool.not_eq_false', decide_eq_true_iff, decide_eq_false_iff_not, nil_len, zN_iff, ne_eq, Bool.false_eq_true, iff_false, false_iff, not_and, not_or, true_iff, iff_true, Bool.not_not, Decidable.not_not] at * <;> omega
     ·skip
      refine gc_skip ?_
      refine gk_then ?_
      refine gc_seq (gc_seqr [(.mv, 0), (.mv, 1), (.mv, 2), (.mv, 3), (.mv, 4)] rfl ?_)
      refine gr_rd rfl rfl rfl (rd_fieldAddr Tryd.fa36_3 rfl) ?_
      refine gr_rd rfl rfl rfl (rd_loadA Tryd.ta34 rfl (Cells.own List.mem_cons_self) (encDraft_seg_ref d) (encId_length _)) ?_
      refine gr_rd rfl rfl rfl (zero_build (zl := encId Nm.zero) Tryd.underlying34 Tryd.zeroValue34 rfl Tryd.sizeOf5) ?_
      refine gr_rd rfl rfl rfl (rd_arrEq Tryd.tb34 (by first | exact Nm.len _ | assumption | simp) (by first | exact Nm.len _ | assumption | simp) rfl rfl) ?_
      refine ga rfl rfl rfl rfl ?_
      refine gr_nil (gk_then ?_)
      refine gc_seq ?_
      refine gc_seq (gc_seqr [(.mv, 0), (.mv, 1), (.mv, 2)] rfl ?_)
      refine gr_rd rfl rfl rfl (rd_fieldAddr Tryd.fa36_0 rfl) ?_
      refine gr_rd rfl rfl rfl (rd_load1 Tryd.to3 rfl cel at1) ?_
      refine gr_rd rfl rfl rfl (rd_leq rfl rfl) ?_
      refine gr_nil (gk_then ?_)
      refine gc_cond rfl (fun hc1 => ?_) (fun hc1 => ?_)
      ·skip
       refine gc_seq (gc_seqr [(.mv, 0), (.mv, 1)] rfl ?_)
       refine gm rfl rfl rfl rfl ?_
       refine ga rfl rfl rfl rfl ?_
       refine gr_nil (gk_then ?_)
       refine gc_ret ?_
       refine gk_ret_then ?_
       refine gk_result (L' := L) (.inl rfl) _ (res1 rfl rfl) sbl gle ?_
       refine ⟨?_, rfl, rfl⟩
       congr 1
       rw [Bool.eq_iff_iff, goodDraft_iff]
       have hzl := zN_le d.ref
       simp only [beq_iff_eq, beq_eq_false_iff_ne, bne_iff_ne, bne_eq_false_iff_eq, Bool.not_eq_true', Bool.not_eq_false', decide_eq_true_iff, decide_eq_false_iff_not, nil_len, zN_iff, ne_eq, Bool.false_eq_true, iff_false, false_iff, not_and, not_or, true_iff, iff_true, Bool.not_not, Decidable.not_not] at * <;> omega
      ·skip
       refine gc_skip ?_
       refine gk_then ?_
       refine gc_seq (gc_seqr [(.mv, 0), (.mv, 1), (.mv, 2), (.mv, 3), (.mv, 4), (.mv, 5), (.mv, 6), (.mv, 7), (.mv, 8), (.mv, 9), (.mv, 10), (.mv, 11), (.mv, 12)] rfl ?_)
       refine gr_rd rfl rfl rfl (rd_fieldAddr Tryd.fa36_0 rfl) ?_
       refine gr_rd rfl rfl rfl (rd_load1 Tryd.to3 rfl cel at1) ?_
       refine gr_rd rfl rfl rfl (rd_eql rfl rfl) ?_
       refine gm rfl rfl rfl rfl ?_
       refine gr_split rfl (fun hg3 => ?_) (fun hg3 => ?_)
       ·skip
        refine gr_no rfl rfl rfl ?_
        refine gr_no rfl rfl rfl ?_
        refine gr_no rfl rfl rfl ?_
        refine gr_no rfl rfl rfl ?_
        refine gr_no rfl rfl rfl ?_
        refine gr_no rfl rfl rfl ?_
        refine gr_no rfl rfl rfl ?_
        (first | refine gpt rfl rfl rfl rfl rfl ?_ | refine gpf rfl rfl rfl rfl rfl ?_)
        refine ga rfl rfl rfl rfl ?_
        refine gr_nil (gk_then ?_)
        refine gc_ret ?_
        refine gk_result (L' := L) (.inl rfl) _ (res1 rfl rfl) sbl gle ?_
        refine ⟨?_, rfl, rfl⟩
        congr 1
        rw [Bool.eq_iff_iff, goodDraft_iff]
        have hzl := zN_le d.ref
        simp only [beq_iff_eq, beq_eq_false_iff_ne, bne_iff_ne, bne_eq_false_iff_eq, Bool.not_eq_true', Bool.not_eq_false', decide_eq_true_iff, decide_eq_false_iff_not, nil_len, zN_iff, ne_eq, Bool.false_eq_true, iff_false, false_iff, not_and, not_or, true_iff, iff_true, Bool.not_not, Decidable.not_not] at * <;> omega
       ·skip
        refine gm rfl rfl rfl rfl ?_
        refine gr_rd rfl rfl rfl (rd_not rfl) ?_
        refine gm rfl rfl rfl rfl ?_
        refine gr_split rfl (fun hg6 => ?_) (fun hg6 => ?_)
        ·skip
         refine gr_rd rfl rfl rfl (rd_fieldAddr Tryd.fa36_2 rfl) ?_
         refine gr_rd rfl rfl rfl (rd_load1 Tryd.to9 rfl cel at1) ?_
         refine gr_rd rfl rfl rfl (rd_strEqL rfl rfl) ?_
         (first | refine gpt rfl rfl rfl rfl rfl ?_ | refine gpf rfl rfl rfl rfl rfl ?_)
         (first | refine gpt rfl rfl rfl rfl rfl ?_ | refine gpf rfl rfl rfl rfl rfl ?_)
         refine ga rfl rfl rfl rfl ?_
         refine gr_nil (gk_then ?_)
         refine gc_ret ?_
         refine gk_result (L' := L) (.inl rfl) _ (res1 rfl rfl) sbl gle ?_
         refine ⟨?_, rfl, rfl⟩
         congr 1
         rw [Bool.eq_iff_iff, goodDraft_iff]
         have hzl := zN_le d.ref
         simp only [beq_iff_eq, beq_eq_false_iff_ne, bne_iff_ne, bne_eq_false_iff_eq, Bool.not_eq_true', Bool.not_eq_false', decide_eq_true_iff, decide_eq_false_iff_not, nil_len, zN_iff, ne_eq, Bool.false_eq_true, iff_false, false_iff, not_and, not_or, true_iff, iff_true, Bool.not_not, Decidable.not_not] at * <;> omega
        ·skip
         refine gr_no rfl rfl rfl ?_
         refine gr_no rfl rfl rfl ?_
         refine gr_no rfl rfl rfl ?_
         (first | refine gpt rfl rfl rfl rfl rfl ?_ | refine gpf rfl rfl rfl rfl rfl ?_)
         (first | refine gpt rfl rfl rfl rfl rfl ?_ | refine gpf rfl rfl rfl rfl rfl ?_)
         refine ga rfl rfl rfl rfl ?_
         refine gr_nil (gk_then ?_)
         refine gc_ret ?_
         refine gk_result (L' := L) (.inl rfl) _ (res1 rfl rfl) sbl gle ?_
         refine ⟨?_, rfl, rfl⟩
         congr 1
         rw [Bool.eq_iff_iff, goodDraft_iff]
         have hzl := zN_le d.ref
         simp only [beq_iff_eq, beq_eq_false_iff_ne, bne_iff_ne, bne_eq_false_iff_eq, Bool.not_eq_true', Bool.not_eq_false', decide_eq_true_iff, decide_eq_false_iff_not, nil_len, zN_iff, ne_eq, Bool.false_eq_true, iff_false, false_iff, not_and, not_or, true_iff, iff_true, Bool.not_not, Decidable.not_not] at * <;> omega
theorem good_cc (H : Gh) (L : Chunks) (o : POp) (pv : Value) (hp : Ids H L pv o.preds) :
    CC Tryd.prog 42 #[ag (encOp o pv)] H L (fun v H' L' => v = .bool (good o) ∧ H = H' ∧ L = L') := by
 obtain ⟨A, bv, ov, cv, lv, rfl, hcv, hnv, hv0, hv1, hv2⟩ := hp
 refine cc_of Tryd.func42 rfl (Nat.le_of_ble_eq_true rfl) ?_
 simp only [Tryd.ntmps42]
 refine gc_seq (gc_seqr [(.nm, 0), (.mv, 1)] rfl ?_)
 refine gr_nx rfl rfl rfl (nx_box rfl rfl) ?_; rintro _ _ _ _ ⟨b1, rfl, rfl, rfl⟩; refine ⟨trivial, ?_⟩
 refine ga rfl rfl rfl rfl ?_
 refine gr_nil (gk_then ?_)
 refine gc_seq ?_
 refine gc_seq (gc_seqr [(.mv, 0), (.mv, 1), (.nm, 2), (.mv, 3), (.mv, 4), (.mv, 5), (.mv, 6), (.mv, 7), (.mv, 8), (.mv, 9), (.mv, 10), (.mv, 11), (.mv, 12), (.mv, 13), (.mv, 14), (.mv, 15), (.mv, 16), (.mv, 17), (.mv, 18), (.mv, 19), (.mv, 20), (.mv, 21), (.mv, 22), (.mv, 23), (.mv, 24), (.mv, 25), (.mv, 26), (.mv, 27), (.mv, 28), (.mv, 29), (.mv, 30), (.mv, 31), (.mv, 32), (.mv, 33), (.mv, 34)] rfl ?_)
 refine gr_rd rfl rfl rfl (rd_fieldAddr Tryd.fa38_0 rfl) ?_
 refine gr_rd rfl rfl rfl (rd_loadA Tryd.ta36 rfl (Cells.own List.mem_cons_self) (encOp_seg_draft o _) (encDraft_length _)) ?_
 refine gr_nx rfl rfl rfl (nx_call Tryd.en61 rfl (goodDraft_cc _ _ o.draft)) ?_; rintro v6 H' L' hle ⟨rfl, rfl, rfl⟩; refine ⟨trivial, ?_⟩
 refine gr_rd rfl rfl rfl (rd_not rfl) ?_
 refine gm rfl rfl rfl rfl ?_
 refine gr_split rfl (fun hg4 => ?_) (fun hg4 => ?_)
 ·skip
  refine gr_no rfl rfl rfl ?_
  refine gr_no rfl rfl rfl ?_
  refine gr_no rfl rfl rfl ?_
  (first | refine gpt rfl rfl rfl rfl rfl ?_ | refine gpf rfl rfl rfl rfl rfl ?_)
  refine gm rfl rfl rfl rfl ?_
  refine gr_no rfl rfl rfl ?_
  refine gr_no rfl rfl rfl ?_
  refine gr_no rfl rfl rfl ?_
  (first | refine gpt rfl rfl rfl rfl rfl ?_ | refine gpf rfl rfl rfl rfl rfl ?_)
  refine gm rfl rfl rfl rfl ?_
  refine gr_no rfl rfl rfl ?_
  refine gr_no rfl rfl rfl ?_
  refine gr_no rfl rfl rfl ?_
  (first | refine gpt rfl rfl rfl rfl rfl ?_ | refine gpf rfl rfl rfl rfl rfl ?_)
  refine gm rfl rfl rfl rfl ?_
  refine gr_no rfl rfl rfl ?_
  refine gr_no rfl rfl rfl ?_
  refine gr_no rfl rfl rfl ?_
  refine gr_no rfl rfl rfl ?_
  (first | refine gpt rfl rfl rfl rfl rfl ?_ | refine gpf rfl rfl rfl rfl rfl ?_)
  refine gm rfl rfl rfl rfl ?_
  refine gr_no rfl rfl rfl ?_
  refine gr_no rfl rfl rfl ?_
  refine gr_no rfl rfl rfl ?_
  refine gr_no rfl rfl rfl ?_
  refine gr_no rfl rfl rfl ?_
  refine gr_no rfl rfl rfl ?_
  refine gr_no rfl rfl rfl ?_
  refine gr_no rfl rfl rfl ?_
  (first | refine gpt rfl rfl rfl rfl rfl ?_ | refine gpf rfl rfl rfl rfl rfl ?_)
  refine gr_nil (gk_then ?_)
  refine gc_yes rfl ?_
  refine gc_seq (gc_seqr [(.mv, 0)] rfl ?_)
  refine ga rfl rfl rfl rfl ?_
  refine gr_nil (gk_then ?_)
  refine gc_ret ?_
  refine gk_ret_then ?_
  refine gk_result (L' := L) (.inl rfl) _ (res1 rfl rfl) sbl gle ?_
  refine ⟨?_, rfl, rfl⟩
  congr 1
  rw [Bool.eq_iff_iff, good_iff]
  have hgl := gN_le o.draft
  have hrl := rN_le o.preds
  simp only [beq_iff_eq, beq_eq_false_iff_ne, iN_t, iN_f, bN_t, bN_f, Bool.not_eq_true', Bool.not_eq_false', decide_eq_true_iff, decide_eq_false_iff_not, gN_t, gN_f, ne_eq, Bool.false_eq_true, iff_false, false_iff, true_iff, iff_true, Bool.not_not, Decidable.not_not] at * <;> omega
 ·skip
  refine gr_rd rfl rfl rfl (rd_fieldAddr Tryd.fa38_1 rfl) ?_
  refine gr_rd rfl rfl rfl (rd_load1 Tryd.to3 rfl cel at1) ?_
  refine gr_rd rfl rfl rfl (rd_lss rfl rfl) ?_
  (first | refine gpt rfl rfl rfl rfl rfl ?_ | refine gpf rfl rfl rfl rfl rfl ?_)
  refine gm rfl rfl rfl rfl ?_
  refine gr_split rfl (fun hg9 => ?_) (fun hg9 => ?_)
  ·skip
   refine gr_no rfl rfl rfl ?_
   refine gr_no rfl rfl rfl ?_
   refine gr_no rfl rfl rfl ?_
   (first | refine gpt rfl rfl rfl rfl rfl ?_ | refine gpf rfl rfl rfl rfl rfl ?_)
   refine gm rfl rfl rfl rfl ?_
   refine gr_no rfl rfl rfl ?_
   refine gr_no rfl rfl rfl ?_
   refine gr_no rfl rfl rfl ?_
   (first | refine gpt rfl rfl rfl rfl rfl ?_ | refine gpf rfl rfl rfl rfl rfl ?_)
   refine gm rfl rfl rfl rfl ?_
   refine gr_no rfl rfl rfl ?_
   refine gr_no rfl rfl rfl ?_
   refine gr_no rfl rfl rfl ?_
   refine gr_no rfl rfl rfl ?_
   (first | refine gpt rfl rfl rfl rfl rfl ?_ | refine gpf rfl rfl rfl rfl rfl ?_)
   refine gm rfl rfl rfl rfl ?_
   refine gr_no rfl rfl rfl ?_
   refine gr_no rfl rfl rfl ?_
   refine gr_no rfl rfl rfl ?_
   refine gr_no rfl rfl rfl ?_
   refine gr_no rfl rfl rfl ?_
   refine gr_no rfl rfl rfl ?_
   refine gr_no rfl rfl rfl ?_
   refine gr_no rfl rfl rfl ?_
   (first | refine gpt rfl rfl rfl rfl rfl ?_ | refine gpf rfl rfl rfl rfl rfl ?_)
   refine gr_nil (gk_then ?_)
   refine gc_yes rfl ?_
   refine gc_seq (gc_seqr [(.mv, 0)] rfl ?_)
   refine ga rfl rfl rfl rfl ?_
   refine gr_nil (gk_then ?_)
   refine gc_ret ?_
   refine gk_ret_then ?_
   refine gk_result (L' := L) (.inl rfl) _ (res1 rfl rfl) sbl gle ?_
   refine ⟨?_, rfl, rfl⟩
   congr 1
   rw [Bool.eq_iff_iff, good_iff]
   have hgl := gN_le o.draft
   have hrl := rN_le o.preds
   simp only [beq_iff_eq, beq_eq_false_iff_ne, iN_t, iN_f, bN_t, bN_f, Bool.not_eq_true', Bool.not_eq_false', decide_eq_true_iff, decide_eq_false_iff_not, gN_t, gN_f, ne_eq, Bool.false_eq_true, iff_false, false_iff, true_iff, iff_true, Bool.not_not, Decidable.not_not] at * <;> omega
  ·skip
   refine gr_rd rfl rfl rfl (rd_fieldAddr Tryd.fa38_1 rfl) ?_
   refine gr_rd rfl rfl rfl (rd_load1 Tryd.to3 rfl cel at1) ?_
   refine gr_rd rfl rfl rfl (rd_geq rfl rfl) ?_
   (first | refine gpt rfl rfl rfl rfl rfl ?_ | refine gpf rfl rfl rfl rfl rfl ?_)
   refine gm rfl rfl rfl rfl ?_
   refine gr_split rfl (fun hg14 => ?_) (fun hg14 => ?_)
   ·skip
    refine gr_no rfl rfl rfl ?_
    refine gr_no rfl rfl rfl ?_
    refine gr_no rfl rfl rfl ?_
    (first | refine gpt rfl rfl rfl rfl rfl ?_ | refine gpf rfl rfl rfl rfl rfl ?_)
    refine gm rfl rfl rfl rfl ?_
    refine gr_no rfl rfl rfl ?_
    refine gr_no rfl rfl rfl ?_
    refine gr_no rfl rfl rfl ?_
    refine gr_no rfl rfl rfl ?_
    (first | refine gpt rfl rfl rfl rfl rfl ?_ | refine gpf rfl rfl rfl rfl rfl ?_)
    refine gm rfl rfl rfl rfl ?_
    refine gr_no rfl rfl rfl ?_
    refine gr_no rfl rfl rfl ?_
    refine gr_no rfl rfl rfl ?_
    refine gr_no rfl rfl rfl ?_
    refine gr_no rfl rfl rfl ?_
    refine gr_no rfl rfl rfl ?_
    refine gr_no rfl rfl rfl ?_
    refine gr_no rfl rfl rfl ?_
    (first | refine gpt rfl rfl rfl rfl rfl ?_ | refine gpf rfl rfl rfl rfl rfl ?_)
    refine gr_nil (gk_then ?_)
    refine gc_yes rfl ?_
    refine gc_seq (gc_seqr [(.mv, 0)] rfl ?_)
    refine ga rfl rfl rfl rfl ?_
    refine gr_nil (gk_then ?_)
    refine gc_ret ?_
    refine gk_ret_then ?_
    refine gk_result (L' := L) (.inl rfl) _ (res1 rfl rfl) sbl gle ?_
    refine ⟨?_, rfl, rfl⟩
    congr 1
    rw [Bool.eq_iff_iff, good_iff]
    have hgl := gN_le o.draft
    have hrl := rN_le o.preds
    simp only [beq_iff_eq, beq_eq_false_iff_ne, iN_t, iN_f, bN_t, bN_f, Bool.not_eq_true', Bool.not_eq_false', decide_eq_true_iff, decide_eq_false_iff_not, gN_t, gN_f, ne_eq, Bool.false_eq_true, iff_false, false_iff, true_iff, iff_true, Bool.not_not, Decidable.not_not] at * <;> omega
   ·skip
    refine gr_rd rfl rfl rfl (rd_fieldAddr Tryd.fa38_2 rfl) ?_
    refine gr_rd rfl rfl rfl (rd_load1 Tryd.to3 rfl cel at1) ?_
    refine gr_rd rfl rfl rfl (rd_lss rfl rfl) ?_
    (first | refine gpt rfl rfl rfl rfl rfl ?_ | refine gpf rfl rfl rfl rfl rfl ?_)
    refine gm rfl rfl rfl rfl ?_
    refine gr_split rfl (fun hg19 => ?_) (fun hg19 => ?_)
    ·skip
     refine gr_no rfl rfl rfl ?_
     refine gr_no rfl rfl rfl ?_
     refine gr_no rfl rfl rfl ?_
     refine gr_no rfl rfl rfl ?_
     (first | refine gpt rfl rfl rfl rfl rfl ?_ | refine gpf rfl rfl rfl rfl rfl ?_)
     refine gm rfl rfl rfl rfl ?_
     refine gr_no rfl rfl rfl ?_
     refine gr_no rfl rfl rfl ?_
     refine gr_no rfl rfl rfl ?_
     refine gr_no rfl rfl rfl ?_
     refine gr_no rfl rfl rfl ?_
     refine gr_no rfl rfl rfl ?_
     refine gr_no rfl rfl rfl ?_
     refine gr_no rfl rfl rfl ?_
     (first | refine gpt rfl rfl rfl rfl rfl ?_ | refine gpf rfl rfl rfl rfl rfl ?_)
     refine gr_nil (gk_then ?_)
     refine gc_yes rfl ?_
     refine gc_seq (gc_seqr [(.mv, 0)] rfl ?_)
     refine ga rfl rfl rfl rfl ?_
     refine gr_nil (gk_then ?_)
     refine gc_ret ?_
     refine gk_ret_then ?_
     refine gk_result (L' := L) (.inl rfl) _ (res1 rfl rfl) sbl gle ?_
     refine ⟨?_, rfl, rfl⟩
     congr 1
     rw [Bool.eq_iff_iff, good_iff]
     have hgl := gN_le o.draft
     have hrl := rN_le o.preds
     simp only [beq_iff_eq, beq_eq_false_iff_ne, iN_t, iN_f, bN_t, bN_f, Bool.not_eq_true', Bool.not_eq_false', decide_eq_true_iff, decide_eq_false_iff_not, gN_t, gN_f, ne_eq, Bool.false_eq_true, iff_false, false_iff, true_iff, iff_true, Bool.not_not, Decidable.not_not] at * <;> omega
    ·skip
     refine gr_rd rfl rfl rfl (rd_fieldAddr Tryd.fa38_3 rfl) ?_
     refine gr_rd rfl rfl rfl (rd_load1 Tryd.to29 rfl cel at1) ?_
     refine gr_rd rfl rfl rfl (rd_lenS Tryd.underlying29 rfl) ?_
     refine gr_rd rfl rfl rfl (rd_gtr rfl rfl) ?_
     (first | refine gpt rfl rfl rfl rfl rfl ?_ | refine gpf rfl rfl rfl rfl rfl ?_)
     refine gm rfl rfl rfl rfl ?_
     refine gr_split rfl (fun hg25 => ?_) (fun hg25 => ?_)
     ·skip
      refine gr_no rfl rfl rfl ?_
      refine gr_no rfl rfl rfl ?_
      refine gr_no rfl rfl rfl ?_
      refine gr_no rfl rfl rfl ?_
      refine gr_no rfl rfl rfl ?_
      refine gr_no rfl rfl rfl ?_
      refine gr_no rfl rfl rfl ?_
      refine gr_no rfl rfl rfl ?_
      (first | refine gpt rfl rfl rfl rfl rfl ?_ | refine gpf rfl rfl rfl rfl rfl ?_)
      refine gr_nil (gk_then ?_)
      refine gc_yes rfl ?_
      refine gc_seq (gc_seqr [(.mv, 0)] rfl ?_)
      refine ga rfl rfl rfl rfl ?_
      refine gr_nil (gk_then ?_)
      refine gc_ret ?_
      refine gk_ret_then ?_
      refine gk_result (L' := L) (.inl rfl) _ (res1 rfl rfl) sbl gle ?_
      refine ⟨?_, rfl, rfl⟩
      congr 1
      rw [Bool.eq_iff_iff, good_iff]
      have hgl := gN_le o.draft
      have hrl := rN_le o.preds
      simp only [beq_iff_eq, beq_eq_false_iff_ne, iN_t, iN_f, bN_t, bN_f, Bool.not_eq_true', Bool.not_eq_false', decide_eq_true_iff, decide_eq_false_iff_not, gN_t, gN_f, ne_eq, Bool.false_eq_true, iff_false, false_iff, true_iff, iff_true, Bool.not_not, Decidable.not_not] at * <;> omega
     ·skip
      refine gr_rd rfl rfl rfl (rd_fieldAddr Tryd.fa38_3 rfl) ?_
      refine gr_rd rfl rfl rfl (rd_load1 Tryd.to29 rfl cel at1) ?_
      refine gr_rd rfl rfl rfl (rd_lenS Tryd.underlying29 rfl) ?_
      refine gr_rd rfl rfl rfl (rd_eql rfl rfl) ?_
      refine gr_rd rfl rfl rfl (rd_fieldAddr Tryd.fa38_2 rfl) ?_
      refine gr_rd rfl rfl rfl (rd_load1 Tryd.to3 rfl cel at1) ?_
      refine gr_rd rfl rfl rfl (rd_eql rfl rfl) ?_
      refine gr_rd rfl rfl rfl (rd_boolNe Tryd.underlying4 rfl rfl) ?_
      (first | refine gpt rfl rfl rfl rfl rfl ?_ | refine gpf rfl rfl rfl rfl rfl ?_)
      refine gr_nil (gk_then ?_)
      refine gc_cond rfl (fun hc0 => ?_) (fun hc0 => ?_)
      ·skip
       refine gc_seq (gc_seqr [(.mv, 0)] rfl ?_)
       refine ga rfl rfl rfl rfl ?_
       refine gr_nil (gk_then ?_)
       refine gc_ret ?_
       refine gk_ret_then ?_
       refine gk_result (L' := L) (.inl rfl) _ (res1 rfl rfl) sbl gle ?_
       refine ⟨?_, rfl, rfl⟩
       congr 1
       rw [Bool.eq_iff_iff, good_iff]
       have hgl := gN_le o.draft
       have hrl := rN_le o.preds
       simp only [beq_iff_eq, beq_eq_false_iff_ne, iN_t, iN_f, bN_t, bN_f, Bool.not_eq_true', Bool.not_eq_false', decide_eq_true_iff, decide_eq_false_iff_not, gN_t, gN_f, ne_eq, Bool.false_eq_true, iff_false, false_iff, true_iff, iff_true, Bool.not_not, Decidable.not_not] at * <;> omega
      ·skip
       refine gc_skip ?_
       refine gk_then ?_
       refine gc_seq ?_
       refine gc_seq (gc_seqr [(.mv, 0)] rfl ?_)
       refine ga rfl rfl rfl rfl ?_
       refine gr_nil (gk_then ?_)
       refine gc_block ?_
       refine gc_loop (fun i : Nat => [(1, pt b1 0), (3, i64 i)]) (fun i H1 L1 => H = H1 ∧ (b1, .cells (encOp o (.slice A o.preds.length cv)).toArray 38 (0, 0)) :: L = L1 ∧ 1 ≤ i ∧ i ≤ o.preds.length + 1 ∧ ∀ j, j + 1 < i → cmp (o.preds.getD j Nm.zero) (o.preds.getD (j + 1) Nm.zero) < 0) (fun i => o.preds.length - i) (1) ?_ sbs ?_
       ·exact ⟨rfl, rfl, Nat.le_refl _, by omega, fun j hj => by omega⟩
       ·rintro i H1 L1 ⟨rfl, rfl, hi1, hi2, hri⟩
        refine gc_seq ?_
        refine gc_seq (gc_seqr [(.mv, 0), (.mv, 1), (.mv, 2), (.mv, 3), (.mv, 4)] rfl ?_)
        refine gm rfl rfl rfl rfl ?_
        refine gr_rd rfl rfl rfl (rd_fieldAddr Tryd.fa38_3 rfl) ?_
        refine gr_rd rfl rfl rfl (rd_load1 Tryd.to29 rfl cel at1) ?_
        refine gr_rd rfl rfl rfl (rd_lenS Tryd.underlying29 rfl) ?_
        refine gr_rd rfl rfl rfl (rd_lss rfl rfl) ?_
        refine gr_nil (gk_then ?_)
        refine gc_cond rfl (fun hc1 => ?_) (fun hc1 => ?_)
        ·have hlt : i < o.preds.length := by simpa using hc1
         obtain ⟨hAe, hca, hsa⟩ := ids_at2 (i := (i : Int)) hv1 hv2 hlt rfl
         obtain ⟨_, _, hsb⟩ := ids_at2 (i := (i : Int) - 1) (j := i - 1) hv1 hv2 (by omega) (by omega)
         have hca1 := mono_cons (c := (b1, .cells (encOp o (.slice A o.preds.length cv)).toArray 38 (0, 0))) hca
         refine gc_skip ?_
         refine gk_then ?_
         refine gc_seq ?_
         refine gc_block ?_
         refine gc_seq ?_
         refine gc_draw Tryd.mixed [(.mv, 0), (.mv, 1), (.mv, 2), (.mv, 3), (.mv, 4), (.mv, 5), (.mv, 6), (.mv, 7), (.mv, 8), (.mv, 9), (.mv, 10), (.fin, 11), (.fin, 12)] (by decide +kernel) _ (List.Sublist.refl _) ?_
         refine gr_rd rfl rfl rfl (rd_fieldAddr Tryd.fa38_3 rfl) ?_
         refine gr_rd rfl rfl rfl (rd_load1 Tryd.to29 rfl cel at1) ?_
         refine gm rfl rfl rfl rfl ?_
         (first | refine gr_rd rfl rfl rfl (rd_sub rfl rfl (IntWalk.i64_in _ (by omega))) ?_ | refine gr_rd rfl rfl rfl (rd_sub rfl rfl rfl) ?_)
         refine gr_rd rfl rfl rfl (rd_indexS Tryd.underlying29 Tryd.sizeOf34 rfl rfl hAe (by omega) (by omega)) ?_
         refine gr_rd rfl rfl rfl (rd_loadA Tryd.ta34 rfl hca1 hsb (encId_length _)) ?_
         refine gr_rd rfl rfl rfl (rd_fieldAddr Tryd.fa38_3 rfl) ?_
         refine gr_rd rfl rfl rfl (rd_load1 Tryd.to29 rfl cel at1) ?_
         refine gm rfl rfl rfl rfl ?_
         refine gr_rd rfl rfl rfl (rd_indexS Tryd.underlying29 Tryd.sizeOf34 rfl rfl hAe (by omega) (by omega)) ?_
         refine gr_rd rfl rfl rfl (rd_loadA Tryd.ta34 rfl hca1 hsa (encId_length _)) ?_
         refine gr_fin rfl rfl rfl (nx_call Tryd.en50 rfl (cmp_cc _ _ _ _)) ?_; rintro v57 H' L' hle ⟨rfl, rfl, rfl⟩
         (refine gr_fin rfl rfl rfl (Rd.nx (rd_geq rfl rfl)) ?_; rintro _ _ _ _ ⟨rfl, rfl, rfl⟩)
         refine gr_nil (gk_then ?_)
         refine gc_cond rfl (fun hc2 => ?_) (fun hc2 => ?_)
         ·have hr0 := rN_zero (l := o.preds) (j := i - 1) (by omega) (by rw [show i - 1 + 1 = i by omega]; simpa using hc2)
          refine gc_seq (gc_seqr [(.mv, 0)] rfl ?_)
          refine ga rfl rfl rfl rfl ?_
          refine gr_nil (gk_then ?_)
          refine gc_ret ?_
          refine gk_ret_inBlock ?_
          refine gk_ret_then ?_
          refine gk_ret_then ?_
          refine gk_ret_inBlock ?_
          refine gk_ret_then ?_
          refine gk_result (L' := L) (.inl rfl) _ (res1 rfl rfl) sbl gle ?_
          refine ⟨?_, rfl, rfl⟩
          congr 1
          rw [Bool.eq_iff_iff, good_iff]
          have hgl := gN_le o.draft
          have hrl := rN_le o.preds
          simp only [beq_iff_eq, beq_eq_false_iff_ne, iN_t, iN_f, bN_t, bN_f, Bool.not_eq_true', Bool.not_eq_false', decide_eq_true_iff, decide_eq_false_iff_not, gN_t, gN_f, ne_eq, Bool.false_eq_true, iff_false, false_iff, true_iff, iff_true, Bool.not_not, Decidable.not_not] at * <;> omega
         ·skip
          refine gc_skip ?_
          refine gk_inBlock ?_
          refine gk_then ?_
          refine gc_seqr [(.mv, 0), (.mv, 1), (.mv, 2)] rfl ?_
          refine gm rfl rfl rfl rfl ?_
          (first | refine gr_rd rfl rfl rfl (rd_add rfl rfl (IntWalk.i64_in _ (by omega))) ?_ | refine gr_rd rfl rfl rfl (rd_add rfl rfl rfl) ?_)
          refine ga rfl rfl rfl rfl ?_
          refine gr_nil ?_
          refine gk_round (i + 1) (by omega) ⟨rfl, rfl, by omega, by omega, fun j hj => ?_⟩ sbs
          by_cases hji : j + 1 < i
          · exact hri j hji
          · obtain rfl : j = i - 1 := by omega
            rw [show i - 1 + 1 = i by omega]
            simpa using hc2
        ·have hge : ¬ i < o.preds.length := by simpa using hc1
         have hr1 := rN_one (l := o.preds) (fun j hj => hri j (by omega))
         clear hri
         refine gc_exit ?_
         refine gk_exit_then ?_
         refine gk_exit_then ?_
         refine gk_here ?_
         refine gk_then ?_
         refine gc_seq (gc_seqr [(.mv, 0)] rfl ?_)
         refine ga rfl rfl rfl rfl ?_
         refine gr_nil (gk_then ?_)
         refine gc_ret ?_
         refine gk_result (L' := L) (.inl rfl) _ (res1 rfl rfl) sbl gle ?_
         refine ⟨?_, rfl, rfl⟩
         congr 1
         rw [Bool.eq_iff_iff, good_iff]
         have hgl := gN_le o.draft
         have hrl := rN_le o.preds
         simp only [beq_iff_eq, beq_eq_false_iff_ne, iN_t, iN_f, bN_t, bN_f, Bool.not_eq_true', Bool.not_eq_false', decide_eq_true_iff, decide_eq_false_iff_not, gN_t, gN_f, ne_eq, Bool.false_eq_true, iff_false, false_iff, true_iff, iff_true, Bool.not_not, Decidable.not_not] at * <;> omega
theorem rgood_cc (H : Gh) (L : Chunks) (o : POp) (pv : Value) (hp : Ids H L pv o.preds) :
    CC Tryd.prog 53 #[ag (encOp o pv)] H L (fun v H' L' => v = .bool (good o) ∧ H = H' ∧ L = L') := by
 obtain ⟨A, bv, ov, cv, lv, rfl, hcv, hnv, hv0, hv1, hv2⟩ := hp
 refine cc_of Tryd.func53 rfl (Nat.le_of_ble_eq_true rfl) ?_
 simp only [Tryd.ntmps53]
 refine gc_seq (gc_seqr [(.nm, 0), (.mv, 1)] rfl ?_)
 refine gr_nx rfl rfl rfl (nx_box rfl rfl) ?_; rintro _ _ _ _ ⟨b1, rfl, rfl, rfl⟩; refine ⟨trivial, ?_⟩
 refine ga rfl rfl rfl rfl ?_
 refine gr_nil (gk_then ?_)
 refine gc_seq ?_
 refine gc_seq (gc_seqr [(.mv, 0), (.mv, 1), (.mv, 2), (.mv, 3)] rfl ?_)
 refine gr_rd rfl rfl rfl (rd_fieldAddr Tryd.fa38_3 rfl) ?_
 refine gr_rd rfl rfl rfl (rd_load1 Tryd.to29 rfl cel at1) ?_
 refine gr_rd rfl rfl rfl (rd_lenS Tryd.underlying29 rfl) ?_
 refine gm rfl rfl rfl rfl ?_
 refine gr_nil (gk_then ?_)
 refine gc_block ?_
 refine gc_loop (fun i : Nat => [(1, pt b1 0), (6, i64 o.preds.length), (7, i64 i)]) (fun i H1 L1 => H = H1 ∧ (b1, .cells (encOp o (.slice A o.preds.length cv)).toArray 38 (0, 0)) :: L = L1 ∧ i ≤ o.preds.length ∧ ∀ j, j + 1 < i → cmp (o.preds.getD j Nm.zero) (o.preds.getD (j + 1) Nm.zero) < 0) (fun i => o.preds.length - i) (0) ?_ sbs ?_
 ·exact ⟨rfl, rfl, Nat.zero_le _, fun j hj => by omega⟩
 ·rintro i H1 L1 ⟨rfl, rfl, hi2, hri⟩
  refine gc_seq (gc_seqr [(.mv, 0)] rfl ?_)
  refine gr_rd rfl rfl rfl (rd_lss rfl rfl) ?_
  refine gr_nil (gk_then ?_)
  refine gc_seq ?_
  refine gc_cond rfl (fun hc0 => ?_) (fun hc0 => ?_)
  ·have hlt : i < o.preds.length := by simpa using hc0
   obtain ⟨hAe, hca, hsa⟩ := ids_at2 (i := (i : Int)) hv1 hv2 hlt rfl
   have hca1 := mono_cons (c := (b1, .cells (encOp o (.slice A o.preds.length cv)).toArray 38 (0, 0))) hca
   refine gc_skip ?_
   refine gk_then ?_
   refine gc_seq ?_
   refine gc_block ?_
   refine gc_seq (gc_seqr [(.mv, 0), (.mv, 1)] rfl ?_)
   refine gm rfl rfl rfl rfl ?_
   refine ga rfl rfl rfl rfl ?_
   refine gr_nil (gk_then ?_)
   refine gc_seq ?_
   refine gc_draw Tryd.mixed [(.mv, 0), (.mv, 1), (.mv, 2), (.mv, 3), (.mv, 4), (.mv, 5), (.mv, 6), (.mv, 7), (.mv, 8), (.mv, 9), (.mv, 10), (.mv, 11), (.mv, 12), (.mv, 13), (.fin, 14), (.fin, 15), (.fin, 16)] (by decide +kernel) _ (List.Sublist.refl _) ?_
   refine gm rfl rfl rfl rfl ?_
   refine gr_rd rfl rfl rfl (rd_gtr rfl rfl) ?_
   refine gm rfl rfl rfl rfl ?_
   refine gr_split rfl (fun hg2 => ?_) (fun hg2 => ?_)
   ·have hi0 : 0 < i := by simpa using hg2
    obtain ⟨_, _, hsb⟩ := ids_at2 (i := (i : Int) - 1) (j := i - 1) hv1 hv2 (by omega) (by omega)
    refine gr_rd rfl rfl rfl (rd_fieldAddr Tryd.fa38_3 rfl) ?_
    refine gr_rd rfl rfl rfl (rd_load1 Tryd.to29 rfl cel at1) ?_
    refine gm rfl rfl rfl rfl ?_
    (first | refine gr_rd rfl rfl rfl (rd_sub rfl rfl (IntWalk.i64_in _ (by omega))) ?_ | refine gr_rd rfl rfl rfl (rd_sub rfl rfl rfl) ?_)
    refine gr_rd rfl rfl rfl (rd_indexS Tryd.underlying29 Tryd.sizeOf34 rfl rfl hAe (by omega) (by omega)) ?_
    refine gr_rd rfl rfl rfl (rd_loadA Tryd.ta34 rfl hca1 hsb (encId_length _)) ?_
    refine gr_rd rfl rfl rfl (rd_fieldAddr Tryd.fa38_3 rfl) ?_
    refine gr_rd rfl rfl rfl (rd_load1 Tryd.to29 rfl cel at1) ?_
    refine gm rfl rfl rfl rfl ?_
    refine gr_rd rfl rfl rfl (rd_indexS Tryd.underlying29 Tryd.sizeOf34 rfl rfl hAe (by omega) (by omega)) ?_
    refine gr_rd rfl rfl rfl (rd_loadA Tryd.ta34 rfl hca1 hsa (encId_length _)) ?_
    refine gr_fin rfl rfl rfl (nx_call Tryd.en57 rfl (rcmp_cc _ _ _ _)) ?_; rintro v24 H' L' hle ⟨rfl, rfl, rfl⟩
    (refine gr_fin rfl rfl rfl (Rd.nx (rd_neq rfl rfl)) ?_; rintro _ _ _ _ ⟨rfl, rfl, rfl⟩)
    (first | (refine gr_fin rfl rfl rfl (Rd.nx (rd_pick_t rfl rfl)) ?_; rintro _ _ _ _ ⟨rfl, rfl, rfl⟩) | (refine gr_fin rfl rfl rfl (Rd.nx (rd_pick_f rfl rfl)) ?_; rintro _ _ _ _ ⟨rfl, rfl, rfl⟩))
    refine gr_nil (gk_then ?_)
    refine gc_cond rfl (fun hc1 => ?_) (fun hc1 => ?_)
    ·have hr0 := rN_zero (l := o.preds) (j := i - 1) (by omega) (by rw [show i - 1 + 1 = i by omega]; intro h; have h3 := cmpB_range (o.preds.getD (i - 1) Nm.zero).bytes (o.preds.getD i Nm.zero).bytes; have h5 := iN_t.1 hc1; unfold cmp at h h5; omega)
     refine gc_seq (gc_seqr [(.mv, 0)] rfl ?_)
     refine ga rfl rfl rfl rfl ?_
     refine gr_nil (gk_then ?_)
     refine gc_ret ?_
     refine gk_ret_inBlock ?_
     refine gk_ret_then ?_
     refine gk_ret_then ?_
     refine gk_ret_inBlock ?_
     refine gk_ret_then ?_
     refine gk_result (L' := L) (.inl rfl) _ (res1 rfl rfl) sbl gle ?_
     refine ⟨?_, rfl, rfl⟩
     congr 1
     rw [Bool.eq_iff_iff, good_iff]
     have hgl := gN_le o.draft
     have hrl := rN_le o.preds
     simp only [beq_iff_eq, beq_eq_false_iff_ne, iN_t, iN_f, bN_t, bN_f, Bool.not_eq_true', Bool.not_eq_false', decide_eq_true_iff, decide_eq_false_iff_not, gN_t, gN_f, ne_eq, Bool.false_eq_true, iff_false, false_iff, true_iff, iff_true, Bool.not_not, Decidable.not_not] at * <;> omega
    ·skip
     refine gc_skip ?_
     refine gk_inBlock ?_
     refine gk_then ?_
     refine gc_seqr [(.mv, 0), (.mv, 1)] rfl ?_
     (first | refine gr_rd rfl rfl rfl (rd_add rfl rfl (IntWalk.i64_in _ (by omega))) ?_ | refine gr_rd rfl rfl rfl (rd_add rfl rfl rfl) ?_)
     refine gm rfl rfl rfl rfl ?_
     refine gr_nil ?_
     refine gk_round (i + 1) (by omega) ⟨rfl, rfl, by omega, fun j hj => ?_⟩ sbs
     by_cases hji : j + 1 < i
     · exact hri j hji
     · obtain rfl : j = i - 1 := by omega
       first
         | exact absurd hj (by have := of_decide_eq_false hg2; omega)
         | (rw [show i - 1 + 1 = i by omega]
            have h3 := cmpB_range (o.preds.getD (i - 1) Nm.zero).bytes (o.preds.getD i Nm.zero).bytes
            have h4 := iN_f.1 hc1
            unfold cmp at h4 ⊢
            omega)
   ·skip
    refine gr_no rfl rfl rfl ?_
    refine gr_no rfl rfl rfl ?_
    refine gr_no rfl rfl rfl ?_
    refine gr_no rfl rfl rfl ?_
    refine gr_no rfl rfl rfl ?_
    refine gr_no rfl rfl rfl ?_
    refine gr_no rfl rfl rfl ?_
    refine gr_no rfl rfl rfl ?_
    refine gr_no rfl rfl rfl ?_
    refine gr_no rfl rfl rfl ?_
    refine gr_no rfl rfl rfl ?_
    refine gr_no rfl rfl rfl ?_
    refine gr_no rfl rfl rfl ?_
    (first | (refine gr_fin rfl rfl rfl (Rd.nx (rd_pick_t rfl rfl)) ?_; rintro _ _ _ _ ⟨rfl, rfl, rfl⟩) | (refine gr_fin rfl rfl rfl (Rd.nx (rd_pick_f rfl rfl)) ?_; rintro _ _ _ _ ⟨rfl, rfl, rfl⟩))
    refine gr_nil (gk_then ?_)
    refine gc_no rfl ?_
    refine gc_skip ?_
    refine gk_inBlock ?_
    refine gk_then ?_
    refine gc_seqr [(.mv, 0), (.mv, 1)] rfl ?_
    (first | refine gr_rd rfl rfl rfl (rd_add rfl rfl (IntWalk.i64_in _ (by omega))) ?_ | refine gr_rd rfl rfl rfl (rd_add rfl rfl rfl) ?_)
    refine gm rfl rfl rfl rfl ?_
    refine gr_nil ?_
    refine gk_round (i + 1) (by omega) ⟨rfl, rfl, by omega, fun j hj => ?_⟩ sbs
    by_cases hji : j + 1 < i
    · exact hri j hji
    · obtain rfl : j = i - 1 := by omega
      first
        | exact absurd hj (by have := of_decide_eq_false hg2; omega)
        | (rw [show i - 1 + 1 = i by omega]
           have h3 := cmpB_range (o.preds.getD (i - 1) Nm.zero).bytes (o.preds.getD i Nm.zero).bytes
           have h4 := iN_f.1 hc1
           unfold cmp at h4 ⊢
           omega)
  ·have hge : ¬ i < o.preds.length := by simpa using hc0
   have hr1 := rN_one (l := o.preds) (fun j hj => hri j (by omega))
   clear hri
   refine gc_exit ?_
   refine gk_exit_then ?_
   refine gk_exit_then ?_
   refine gk_here ?_
   refine gk_then ?_
   refine gc_seq ?_
   refine gc_seq (gc_seqr [(.mv, 0), (.mv, 1), (.mv, 2), (.mv, 3), (.mv, 4), (.mv, 5), (.mv, 6), (.mv, 7), (.mv, 8), (.mv, 9), (.mv, 10), (.mv, 11), (.mv, 12), (.mv, 13), (.mv, 14), (.mv, 15), (.mv, 16), (.mv, 17), (.mv, 18), (.mv, 19), (.mv, 20), (.mv, 21), (.mv, 22), (.mv, 23), (.mv, 24), (.mv, 25)] rfl ?_)
   refine gr_rd rfl rfl rfl (rd_fieldAddr Tryd.fa38_3 rfl) ?_
   refine gr_rd rfl rfl rfl (rd_load1 Tryd.to29 rfl cel at1) ?_
   refine gr_rd rfl rfl rfl (rd_lenS Tryd.underlying29 rfl) ?_
   refine gr_rd rfl rfl rfl (rd_eql rfl rfl) ?_
   refine gm rfl rfl rfl rfl ?_
   refine gr_split rfl (fun hg4 => ?_) (fun hg4 => ?_)
   ·skip
    refine gr_rd rfl rfl rfl (rd_fieldAddr Tryd.fa38_2 rfl) ?_
    refine gr_rd rfl rfl rfl (rd_load1 Tryd.to3 rfl cel at1) ?_
    refine gr_rd rfl rfl rfl (rd_neq rfl rfl) ?_
    (first | refine gpt rfl rfl rfl rfl rfl ?_ | refine gpf rfl rfl rfl rfl rfl ?_)
    refine gm rfl rfl rfl rfl ?_
    refine gr_split rfl (fun hg9 => ?_) (fun hg9 => ?_)
    ·skip
     refine gr_no rfl rfl rfl ?_
     refine gr_no rfl rfl rfl ?_
     refine gr_no rfl rfl rfl ?_
     refine gr_no rfl rfl rfl ?_
     refine gr_no rfl rfl rfl ?_
     refine gr_no rfl rfl rfl ?_
     refine gr_no rfl rfl rfl ?_
     refine gr_no rfl rfl rfl ?_
     refine gr_no rfl rfl rfl ?_
     (first | refine gpt rfl rfl rfl rfl rfl ?_ | refine gpf rfl rfl rfl rfl rfl ?_)
     refine gm rfl rfl rfl rfl ?_
     refine gr_no rfl rfl rfl ?_
     refine gr_no rfl rfl rfl ?_
     refine gr_no rfl rfl rfl ?_
     refine gr_no rfl rfl rfl ?_
     (first | refine gpt rfl rfl rfl rfl rfl ?_ | refine gpf rfl rfl rfl rfl rfl ?_)
     refine gr_nil (gk_then ?_)
     refine gc_yes rfl ?_
     refine gc_seq (gc_seqr [(.mv, 0)] rfl ?_)
     refine ga rfl rfl rfl rfl ?_
     refine gr_nil (gk_then ?_)
     refine gc_ret ?_
     refine gk_ret_then ?_
     refine gk_result (L' := L) (.inl rfl) _ (res1 rfl rfl) sbl gle ?_
     refine ⟨?_, rfl, rfl⟩
     congr 1
     rw [Bool.eq_iff_iff, good_iff]
     have hgl := gN_le o.draft
     have hrl := rN_le o.preds
     simp only [beq_iff_eq, beq_eq_false_iff_ne, iN_t, iN_f, bN_t, bN_f, Bool.not_eq_true', Bool.not_eq_false', decide_eq_true_iff, decide_eq_false_iff_not, gN_t, gN_f, ne_eq, Bool.false_eq_true, iff_false, false_iff, true_iff, iff_true, Bool.not_not, Decidable.not_not] at * <;> omega
    ·skip
     refine gr_rd rfl rfl rfl (rd_fieldAddr Tryd.fa38_3 rfl) ?_
     refine gr_rd rfl rfl rfl (rd_load1 Tryd.to29 rfl cel at1) ?_
     refine gr_rd rfl rfl rfl (rd_lenS Tryd.underlying29 rfl) ?_
     refine gr_rd rfl rfl rfl (rd_gtr rfl rfl) ?_
     refine gm rfl rfl rfl rfl ?_
     refine gr_split rfl (fun hg14 => ?_) (fun hg14 => ?_)
     ·skip
      refine gr_rd rfl rfl rfl (rd_fieldAddr Tryd.fa38_2 rfl) ?_
      refine gr_rd rfl rfl rfl (rd_load1 Tryd.to3 rfl cel at1) ?_
      refine gr_rd rfl rfl rfl (rd_lss rfl rfl) ?_
      (first | refine gpt rfl rfl rfl rfl rfl ?_ | refine gpf rfl rfl rfl rfl rfl ?_)
      (first | refine gpt rfl rfl rfl rfl rfl ?_ | refine gpf rfl rfl rfl rfl rfl ?_)
      refine gm rfl rfl rfl rfl ?_
      refine gr_split rfl (fun hg20 => ?_) (fun hg20 => ?_)
      ·skip
       refine gr_no rfl rfl rfl ?_
       refine gr_no rfl rfl rfl ?_
       refine gr_no rfl rfl rfl ?_
       refine gr_no rfl rfl rfl ?_
       (first | refine gpt rfl rfl rfl rfl rfl ?_ | refine gpf rfl rfl rfl rfl rfl ?_)
       refine gr_nil (gk_then ?_)
       refine gc_yes rfl ?_
       refine gc_seq (gc_seqr [(.mv, 0)] rfl ?_)
       refine ga rfl rfl rfl rfl ?_
       refine gr_nil (gk_then ?_)
       refine gc_ret ?_
       refine gk_ret_then ?_
       refine gk_result (L' := L) (.inl rfl) _ (res1 rfl rfl) sbl gle ?_
       refine ⟨?_, rfl, rfl⟩
       congr 1
       rw [Bool.eq_iff_iff, good_iff]
       have hgl := gN_le o.draft
       have hrl := rN_le o.preds
       simp only [beq_iff_eq, beq_eq_false_iff_ne, iN_t, iN_f, bN_t, bN_f, Bool.not_eq_true', Bool.not_eq_false', decide_eq_true_iff, decide_eq_false_iff_not, gN_t, gN_f, ne_eq, Bool.false_eq_true, iff_false, false_iff, true_iff, iff_true, Bool.not_not, Decidable.not_not] at * <;> omega
      ·skip
       refine gr_rd rfl rfl rfl (rd_fieldAddr Tryd.fa38_3 rfl) ?_
       refine gr_rd rfl rfl rfl (rd_load1 Tryd.to29 rfl cel at1) ?_
       refine gr_rd rfl rfl rfl (rd_lenS Tryd.underlying29 rfl) ?_
       refine gr_rd rfl rfl rfl (rd_gtr rfl rfl) ?_
       (first | refine gpt rfl rfl rfl rfl rfl ?_ | refine gpf rfl rfl rfl rfl rfl ?_)
       refine gr_nil (gk_then ?_)
       refine gc_cond rfl (fun hc2 => ?_) (fun hc2 => ?_)
       ·skip
        refine gc_seq (gc_seqr [(.mv, 0)] rfl ?_)
        refine ga rfl rfl rfl rfl ?_
        refine gr_nil (gk_then ?_)
        refine gc_ret ?_
        refine gk_ret_then ?_
        refine gk_result (L' := L) (.inl rfl) _ (res1 rfl rfl) sbl gle ?_
        refine ⟨?_, rfl, rfl⟩
        congr 1
        rw [Bool.eq_iff_iff, good_iff]
        have hgl := gN_le o.draft
        have hrl := rN_le o.preds
        simp only [beq_iff_eq, beq_eq_false_iff_ne, iN_t, iN_f, bN_t, bN_f, Bool.not_eq_true', Bool.not_eq_false', decide_eq_true_iff, decide_eq_false_iff_not, gN_t, gN_f, ne_eq, Bool.false_eq_true, iff_false, false_iff, true_iff, iff_true, Bool.not_not, Decidable.not_not] at * <;> omega
       ·skip
        refine gc_skip ?_
        refine gk_then ?_
        refine gc_seq (gc_seqr [(.mv, 0), (.mv, 1), (.nm, 2), (.mv, 3), (.mv, 4), (.mv, 5), (.mv, 6), (.mv, 7), (.mv, 8), (.mv, 9), (.mv, 10), (.mv, 11), (.mv, 12), (.mv, 13)] rfl ?_)
        refine gr_rd rfl rfl rfl (rd_fieldAddr Tryd.fa38_0 rfl) ?_
        refine gr_rd rfl rfl rfl (rd_loadA Tryd.ta36 rfl (Cells.own List.mem_cons_self) (encOp_seg_draft o _) (encDraft_length _)) ?_
        refine gr_nx rfl rfl rfl (nx_call Tryd.en62 rfl (rgoodDraft_cc _ _ o.draft)) ?_; rintro v56 H' L' hle ⟨rfl, rfl, rfl⟩; refine ⟨trivial, ?_⟩
        refine gm rfl rfl rfl rfl ?_
        refine gr_split rfl (fun hg3 => ?_) (fun hg3 => ?_)
        ·skip
         refine gr_rd rfl rfl rfl (rd_fieldAddr Tryd.fa38_1 rfl) ?_
         refine gr_rd rfl rfl rfl (rd_load1 Tryd.to3 rfl cel at1) ?_
         refine gr_rd rfl rfl rfl (rd_geq rfl rfl) ?_
         (first | refine gpt rfl rfl rfl rfl rfl ?_ | refine gpf rfl rfl rfl rfl rfl ?_)
         refine gm rfl rfl rfl rfl ?_
         refine gr_split rfl (fun hg8 => ?_) (fun hg8 => ?_)
         ·skip
          refine gr_rd rfl rfl rfl (rd_fieldAddr Tryd.fa38_1 rfl) ?_
          refine gr_rd rfl rfl rfl (rd_load1 Tryd.to3 rfl cel at1) ?_
          refine gr_rd rfl rfl rfl (rd_leq rfl rfl) ?_
          (first | refine gpt rfl rfl rfl rfl rfl ?_ | refine gpf rfl rfl rfl rfl rfl ?_)
          refine ga rfl rfl rfl rfl ?_
          refine gr_nil (gk_then ?_)
          refine gc_ret ?_
          refine gk_result (L' := L) (.inl rfl) _ (res1 rfl rfl) sbl gle ?_
          refine ⟨?_, rfl, rfl⟩
          congr 1
          rw [Bool.eq_iff_iff, good_iff]
          have hgl := gN_le o.draft
          have hrl := rN_le o.preds
          simp only [beq_iff_eq, beq_eq_false_iff_ne, iN_t, iN_f, bN_t, bN_f, Bool.not_eq_true', Bool.not_eq_false', decide_eq_true_iff, decide_eq_false_iff_not, gN_t, gN_f, ne_eq, Bool.false_eq_true, iff_false, false_iff, true_iff, iff_true, Bool.not_not, Decidable.not_not] at * <;> omega
         ·skip
          refine gr_no rfl rfl rfl ?_
          refine gr_no rfl rfl rfl ?_
          refine gr_no rfl rfl rfl ?_
          (first | refine gpt rfl rfl rfl rfl rfl ?_ | refine gpf rfl rfl rfl rfl rfl ?_)
          refine ga rfl rfl rfl rfl ?_
          refine gr_nil (gk_then ?_)
          refine gc_ret ?_
          refine gk_result (L' := L) (.inl rfl) _ (res1 rfl rfl) sbl gle ?_
          refine ⟨?_, rfl, rfl⟩
          congr 1
          rw [Bool.eq_iff_iff, good_iff]
          have hgl := gN_le o.draft
          have hrl := rN_le o.preds
          simp only [beq_iff_eq, beq_eq_false_iff_ne, iN_t, iN_f, bN_t, bN_f, Bool.not_eq_true', Bool.not_eq_false', decide_eq_true_iff, decide_eq_false_iff_not, gN_t, gN_f, ne_eq, Bool.false_eq_true, iff_false, false_iff, true_iff, iff_true, Bool.not_not, Decidable.not_not] at * <;> omega
        ·skip
         refine gr_no rfl rfl rfl ?_
         refine gr_no rfl rfl rfl ?_
         refine gr_no rfl rfl rfl ?_
         (first | refine gpt rfl rfl rfl rfl rfl ?_ | refine gpf rfl rfl rfl rfl rfl ?_)
         refine gm rfl rfl rfl rfl ?_
         refine gr_no rfl rfl rfl ?_
         refine gr_no rfl rfl rfl ?_
         refine gr_no rfl rfl rfl ?_
         (first | refine gpt rfl rfl rfl rfl rfl ?_ | refine gpf rfl rfl rfl rfl rfl ?_)
         refine ga rfl rfl rfl rfl ?_
         refine gr_nil (gk_then ?_)
         refine gc_ret ?_
         refine gk_result (L' := L) (.inl rfl) _ (res1 rfl rfl) sbl gle ?_
         refine ⟨?_, rfl, rfl⟩
         congr 1
         rw [Bool.eq_iff_iff, good_iff]
         have hgl := gN_le o.draft
         have hrl := rN_le o.preds
         simp only [beq_iff_eq, beq_eq_false_iff_ne, iN_t, iN_f, bN_t, bN_f, Bool.not_eq_true', Bool.not_eq_false', decide_eq_true_iff, decide_eq_false_iff_not, gN_t, gN_f, ne_eq, Bool.false_eq_true, iff_false, false_iff, true_iff, iff_true, Bool.not_not, Decidable.not_not] at * <;> omega
     ·skip
      refine gr_no rfl rfl rfl ?_
      refine gr_no rfl rfl rfl ?_
      refine gr_no rfl rfl rfl ?_
      (first | refine gpt rfl rfl rfl rfl rfl ?_ | refine gpf rfl rfl rfl rfl rfl ?_)
      (first | refine gpt rfl rfl rfl rfl rfl ?_ | refine gpf rfl rfl rfl rfl rfl ?_)
      refine gm rfl rfl rfl rfl ?_
      refine gr_rd rfl rfl rfl (rd_fieldAddr Tryd.fa38_3 rfl) ?_
      refine gr_rd rfl rfl rfl (rd_load1 Tryd.to29 rfl cel at1) ?_
      refine gr_rd rfl rfl rfl (rd_lenS Tryd.underlying29 rfl) ?_
      refine gr_rd rfl rfl rfl (rd_gtr rfl rfl) ?_
      (first | refine gpt rfl rfl rfl rfl rfl ?_ | refine gpf rfl rfl rfl rfl rfl ?_)
      refine gr_nil (gk_then ?_)
      refine gc_cond rfl (fun hc2 => ?_) (fun hc2 => ?_)
      ·skip
       refine gc_seq (gc_seqr [(.mv, 0)] rfl ?_)
       refine ga rfl rfl rfl rfl ?_
       refine gr_nil (gk_then ?_)
       refine gc_ret ?_
       refine gk_ret_then ?_
       refine gk_result (L' := L) (.inl rfl) _ (res1 rfl rfl) sbl gle ?_
       refine ⟨?_, rfl, rfl⟩
       congr 1
       rw [Bool.eq_iff_iff, good_iff]
       have hgl := gN_le o.draft
       have hrl := rN_le o.preds
       simp only [beq_iff_eq, beq_eq_false_iff_ne, iN_t, iN_f, bN_t, bN_f, Bool.not_eq_true', Bool.not_eq_false', decide_eq_true_iff, decide_eq_false_iff_not, gN_t, gN_f, ne_eq, Bool.false_eq_true, iff_false, false_iff, true_iff, iff_true, Bool.not_not, Decidable.not_not] at * <;> omega
      ·skip
       refine gc_skip ?_
       refine gk_then ?_
       refine gc_seq (gc_seqr [(.mv, 0), (.mv, 1), (.nm, 2), (.mv, 3), (.mv, 4), (.mv, 5), (.mv, 6), (.mv, 7), (.mv, 8), (.mv, 9), (.mv, 10), (.mv, 11), (.mv, 12), (.mv, 13)] rfl ?_)
       refine gr_rd rfl rfl rfl (rd_fieldAddr Tryd.fa38_0 rfl) ?_
       refine gr_rd rfl rfl rfl (rd_loadA Tryd.ta36 rfl (Cells.own List.mem_cons_self) (encOp_seg_draft o _) (encDraft_length _)) ?_
       refine gr_nx rfl rfl rfl (nx_call Tryd.en62 rfl (rgoodDraft_cc _ _ o.draft)) ?_; rintro v56 H' L' hle ⟨rfl, rfl, rfl⟩; refine ⟨trivial, ?_⟩
       refine gm rfl rfl rfl rfl ?_
       refine gr_split rfl (fun hg3 => ?_) (fun hg3 => ?_)
       ·skip
        refine gr_rd rfl rfl rfl (rd_fieldAddr Tryd.fa38_1 rfl) ?_
        refine gr_rd rfl rfl rfl (rd_load1 Tryd.to3 rfl cel at1) ?_
        refine gr_rd rfl rfl rfl (rd_geq rfl rfl) ?_
        (first | refine gpt rfl rfl rfl rfl rfl ?_ | refine gpf rfl rfl rfl rfl rfl ?_)
        refine gm rfl rfl rfl rfl ?_
        refine gr_split rfl (fun hg8 => ?_) (fun hg8 => ?_)
        ·skip
         refine gr_rd rfl rfl rfl (rd_fieldAddr Tryd.fa38_1 rfl) ?_
         refine gr_rd rfl rfl rfl (rd_load1 Tryd.to3 rfl cel at1) ?_
         refine gr_rd rfl rfl rfl (rd_leq rfl rfl) ?_
         (first | refine gpt rfl rfl rfl rfl rfl ?_ | refine gpf rfl rfl rfl rfl rfl ?_)
         refine ga rfl rfl rfl rfl ?_
         refine gr_nil (gk_then ?_)
         refine gc_ret ?_
         refine gk_result (L' := L) (.inl rfl) _ (res1 rfl rfl) sbl gle ?_
         refine ⟨?_, rfl, rfl⟩
         congr 1
         rw [Bool.eq_iff_iff, good_iff]
         have hgl := gN_le o.draft
         have hrl := rN_le o.preds
         simp only [beq_iff_eq, beq_eq_false_iff_ne, iN_t, iN_f, bN_t, bN_f, Bool.not_eq_true', Bool.not_eq_false', decide_eq_true_iff, decide_eq_false_iff_not, gN_t, gN_f, ne_eq, Bool.false_eq_true, iff_false, false_iff, true_iff, iff_true, Bool.not_not, Decidable.not_not] at * <;> omega
        ·skip
         refine gr_no rfl rfl rfl ?_
         refine gr_no rfl rfl rfl ?_
         refine gr_no rfl rfl rfl ?_
         (first | refine gpt rfl rfl rfl rfl rfl ?_ | refine gpf rfl rfl rfl rfl rfl ?_)
         refine ga rfl rfl rfl rfl ?_
         refine gr_nil (gk_then ?_)
         refine gc_ret ?_
         refine gk_result (L' := L) (.inl rfl) _ (res1 rfl rfl) sbl gle ?_
         refine ⟨?_, rfl, rfl⟩
         congr 1
         rw [Bool.eq_iff_iff, good_iff]
         have hgl := gN_le o.draft
         have hrl := rN_le o.preds
         simp only [beq_iff_eq, beq_eq_false_iff_ne, iN_t, iN_f, bN_t, bN_f, Bool.not_eq_true', Bool.not_eq_false', decide_eq_true_iff, decide_eq_false_iff_not, gN_t, gN_f, ne_eq, Bool.false_eq_true, iff_false, false_iff, true_iff, iff_true, Bool.not_not, Decidable.not_not] at * <;> omega
       ·skip
        refine gr_no rfl rfl rfl ?_
        refine gr_no rfl rfl rfl ?_
        refine gr_no rfl rfl rfl ?_
        (first | refine gpt rfl rfl rfl rfl rfl ?_ | refine gpf rfl rfl rfl rfl rfl ?_)
        refine gm rfl rfl rfl rfl ?_
        refine gr_no rfl rfl rfl ?_
        refine gr_no rfl rfl rfl ?_
        refine gr_no rfl rfl rfl ?_
        (first | refine gpt rfl rfl rfl rfl rfl ?_ | refine gpf rfl rfl rfl rfl rfl ?_)
        refine ga rfl rfl rfl rfl ?_
        refine gr_nil (gk_then ?_)
        refine gc_ret ?_
        refine gk_result (L' := L) (.inl rfl) _ (res1 rfl rfl) sbl gle ?_
        refine ⟨?_, rfl, rfl⟩
        congr 1
        rw [Bool.eq_iff_iff, good_iff]
        have hgl := gN_le o.draft
        have hrl := rN_le o.preds
        simp only [beq_iff_eq, beq_eq_false_iff_ne, iN_t, iN_f, bN_t, bN_f, Bool.not_eq_true', Bool.not_eq_false', decide_eq_true_iff, decide_eq_false_iff_not, gN_t, gN_f, ne_eq, Bool.false_eq_true, iff_false, false_iff, true_iff, iff_true, Bool.not_not, Decidable.not_not] at * <;> omega
   ·skip
    refine gr_no rfl rfl rfl ?_
    refine gr_no rfl rfl rfl ?_
    refine gr_no rfl rfl rfl ?_
    (first | refine gpt rfl rfl rfl rfl rfl ?_ | refine gpf rfl rfl rfl rfl rfl ?_)
    refine gm rfl rfl rfl rfl ?_
    refine gr_rd rfl rfl rfl (rd_fieldAddr Tryd.fa38_3 rfl) ?_
    refine gr_rd rfl rfl rfl (rd_load1 Tryd.to29 rfl cel at1) ?_
    refine gr_rd rfl rfl rfl (rd_lenS Tryd.underlying29 rfl) ?_
    refine gr_rd rfl rfl rfl (rd_gtr rfl rfl) ?_
    refine gm rfl rfl rfl rfl ?_
    refine gr_split rfl (fun hg14 => ?_) (fun hg14 => ?_)
    ·skip
     refine gr_rd rfl rfl rfl (rd_fieldAddr Tryd.fa38_2 rfl) ?_
     refine gr_rd rfl rfl rfl (rd_load1 Tryd.to3 rfl cel at1) ?_
     refine gr_rd rfl rfl rfl (rd_lss rfl rfl) ?_
     (first | refine gpt rfl rfl rfl rfl rfl ?_ | refine gpf rfl rfl rfl rfl rfl ?_)
     (first | refine gpt rfl rfl rfl rfl rfl ?_ | refine gpf rfl rfl rfl rfl rfl ?_)
     refine gm rfl rfl rfl rfl ?_
     refine gr_split rfl (fun hg20 => ?_) (fun hg20 => ?_)
     ·skip
      refine gr_no rfl rfl rfl ?_
      refine gr_no rfl rfl rfl ?_
      refine gr_no rfl rfl rfl ?_
      refine gr_no rfl rfl rfl ?_
      (first | refine gpt rfl rfl rfl rfl rfl ?_ | refine gpf rfl rfl rfl rfl rfl ?_)
      refine gr_nil (gk_then ?_)
      refine gc_yes rfl ?_
      refine gc_seq (gc_seqr [(.mv, 0)] rfl ?_)
      refine ga rfl rfl rfl rfl ?_
      refine gr_nil (gk_then ?_)
      refine gc_ret ?_
      refine gk_ret_then ?_
      refine gk_result (L' := L) (.inl rfl) _ (res1 rfl rfl) sbl gle ?_
      refine ⟨?_, rfl, rfl⟩
      congr 1
      rw [Bool.eq_iff_iff, good_iff]
      have hgl := gN_le o.draft
      have hrl := rN_le o.preds
      simp only [beq_iff_eq, beq_eq_false_iff_ne, iN_t, iN_f, bN_t, bN_f, Bool.not_eq_true', Bool.not_eq_false', decide_eq_true_iff, decide_eq_false_iff_not, gN_t, gN_f, ne_eq, Bool.false_eq_true, iff_false, false_iff, true_iff, iff_true, Bool.not_not, Decidable.not_not] at * <;> omega
     ·skip
      refine gr_rd rfl rfl rfl (rd_fieldAddr Tryd.fa38_3 rfl) ?_
      refine gr_rd rfl rfl rfl (rd_load1 Tryd.to29 rfl cel at1) ?_
      refine gr_rd rfl rfl rfl (rd_lenS Tryd.underlying29 rfl) ?_
      refine gr_rd rfl rfl rfl (rd_gtr rfl rfl) ?_
      (first | refine gpt rfl rfl rfl rfl rfl ?_ | refine gpf rfl rfl rfl rfl rfl ?_)
      refine gr_nil (gk_then ?_)
      refine gc_cond rfl (fun hc2 => ?_) (fun hc2 => ?_)
      ·skip
       refine gc_seq (gc_seqr [(.mv, 0)] rfl ?_)
       refine ga rfl rfl rfl rfl ?_
       refine gr_nil (gk_then ?_)
       refine gc_ret ?_
       refine gk_ret_then ?_
       refine gk_result (L' := L) (.inl rfl) _ (res1 rfl rfl) sbl gle ?_
       refine ⟨?_, rfl, rfl⟩
       congr 1
       rw [Bool.eq_iff_iff, good_iff]
       have hgl := gN_le o.draft
       have hrl := rN_le o.preds
       simp only [beq_iff_eq, beq_eq_false_iff_ne, iN_t, iN_f, bN_t, bN_f, Bool.not_eq_true', Bool.not_eq_false', decide_eq_true_iff, decide_eq_false_iff_not, gN_t, gN_f, ne_eq, Bool.false_eq_true, iff_false, false_iff, true_iff, iff_true, Bool.not_not, Decidable.not_not] at * <;> omega
      ·skip
       refine gc_skip ?_
       refine gk_then ?_
       refine gc_seq (gc_seqr [(.mv, 0), (.mv, 1), (.nm, 2), (.mv, 3), (.mv, 4), (.mv, 5), (.mv, 6), (.mv, 7), (.mv, 8), (.mv, 9), (.mv, 10), (.mv, 11), (.mv, 12), (.mv, 13)] rfl ?_)
       refine gr_rd rfl rfl rfl (rd_fieldAddr Tryd.fa38_0 rfl) ?_
       refine gr_rd rfl rfl rfl (rd_loadA Tryd.ta36 rfl (Cells.own List.mem_cons_self) (encOp_seg_draft o _) (encDraft_length _)) ?_
       refine gr_nx rfl rfl rfl (nx_call Tryd.en62 rfl (rgoodDraft_cc _ _ o.draft)) ?_; rintro v56 H' L' hle ⟨rfl, rfl, rfl⟩; refine ⟨trivial, ?_⟩
       refine gm rfl rfl rfl rfl ?_
       refine gr_split rfl (fun hg3 => ?_) (fun hg3 => ?_)
       ·skip
        refine gr_rd rfl rfl rfl (rd_fieldAddr Tryd.fa38_1 rfl) ?_
        refine gr_rd rfl rfl rfl (rd_load1 Tryd.to3 rfl cel at1) ?_
        refine gr_rd rfl rfl rfl (rd_geq rfl rfl) ?_
        (first | refine gpt rfl rfl rfl rfl rfl ?_ | refine gpf rfl rfl rfl rfl rfl ?_)
        refine gm rfl rfl rfl rfl ?_
        refine gr_split rfl (fun hg8 => ?_) (fun hg8 => ?_)
        ·skip
         refine gr_rd rfl rfl rfl (rd_fieldAddr Tryd.fa38_1 rfl) ?_
         refine gr_rd rfl rfl rfl (rd_load1 Tryd.to3 rfl cel at1) ?_
         refine gr_rd rfl rfl rfl (rd_leq rfl rfl) ?_
         (first | refine gpt rfl rfl rfl rfl rfl ?_ | refine gpf rfl rfl rfl rfl rfl ?_)
         refine ga rfl rfl rfl rfl ?_
         refine gr_nil (gk_then ?_)
         refine gc_ret ?_
         refine gk_result (L' := L) (.inl rfl) _ (res1 rfl rfl) sbl gle ?_
         refine ⟨?_, rfl, rfl⟩
         congr 1
         rw [Bool.eq_iff_iff, good_iff]
         have hgl := gN_le o.draft
         have hrl := rN_le o.preds
         simp only [beq_iff_eq, beq_eq_false_iff_ne, iN_t, iN_f, bN_t, bN_f, Bool.not_eq_true', Bool.not_eq_false', decide_eq_true_iff, decide_eq_false_iff_not, gN_t, gN_f, ne_eq, Bool.false_eq_true, iff_false, false_iff, true_iff, iff_true, Bool.not_not, Decidable.not_not] at * <;> omega
        ·skip
         refine gr_no rfl rfl rfl ?_
         refine gr_no rfl rfl rfl ?_
         refine gr_no rfl rfl rfl ?_
         (first | refine gpt rfl rfl rfl rfl rfl ?_ | refine gpf rfl rfl rfl rfl rfl ?_)
         refine ga rfl rfl rfl rfl ?_
         refine gr_nil (gk_then ?_)
         refine gc_ret ?_
         refine gk_result (L' := L) (.inl rfl) _ (res1 rfl rfl) sbl gle ?_
         refine ⟨?_, rfl, rfl⟩
         congr 1
         rw [Bool.eq_iff_iff, good_iff]
         have hgl := gN_le o.draft
         have hrl := rN_le o.preds
         simp only [beq_iff_eq, beq_eq_false_iff_ne, iN_t, iN_f, bN_t, bN_f, Bool.not_eq_true', Bool.not_eq_false', decide_eq_true_iff, decide_eq_false_iff_not, gN_t, gN_f, ne_eq, Bool.false_eq_true, iff_false, false_iff, true_iff, iff_true, Bool.not_not, Decidable.not_not] at * <;> omega
       ·skip
        refine gr_no rfl rfl rfl ?_
        refine gr_no rfl rfl rfl ?_
        refine gr_no rfl rfl rfl ?_
        (first | refine gpt rfl rfl rfl rfl rfl ?_ | refine gpf rfl rfl rfl rfl rfl ?_)
        refine gm rfl rfl rfl rfl ?_
        refine gr_no rfl rfl rfl ?_
        refine gr_no rfl rfl rfl ?_
        refine gr_no rfl rfl rfl ?_
        (first | refine gpt rfl rfl rfl rfl rfl ?_ | refine gpf rfl rfl rfl rfl rfl ?_)
        refine ga rfl rfl rfl rfl ?_
        refine gr_nil (gk_then ?_)
        refine gc_ret ?_
        refine gk_result (L' := L) (.inl rfl) _ (res1 rfl rfl) sbl gle ?_
        refine ⟨?_, rfl, rfl⟩
        congr 1
        rw [Bool.eq_iff_iff, good_iff]
        have hgl := gN_le o.draft
        have hrl := rN_le o.preds
        simp only [beq_iff_eq, beq_eq_false_iff_ne, iN_t, iN_f, bN_t, bN_f, Bool.not_eq_true', Bool.not_eq_false', decide_eq_true_iff, decide_eq_false_iff_not, gN_t, gN_f, ne_eq, Bool.false_eq_true, iff_false, false_iff, true_iff, iff_true, Bool.not_not, Decidable.not_not] at * <;> omega
    ·skip
     refine gr_no rfl rfl rfl ?_
     refine gr_no rfl rfl rfl ?_
     refine gr_no rfl rfl rfl ?_
     (first | refine gpt rfl rfl rfl rfl rfl ?_ | refine gpf rfl rfl rfl rfl rfl ?_)
     (first | refine gpt rfl rfl rfl rfl rfl ?_ | refine gpf rfl rfl rfl rfl rfl ?_)
     refine gm rfl rfl rfl rfl ?_
     refine gr_rd rfl rfl rfl (rd_fieldAddr Tryd.fa38_3 rfl) ?_
     refine gr_rd rfl rfl rfl (rd_load1 Tryd.to29 rfl cel at1) ?_
     refine gr_rd rfl rfl rfl (rd_lenS Tryd.underlying29 rfl) ?_
     refine gr_rd rfl rfl rfl (rd_gtr rfl rfl) ?_
     (first | refine gpt rfl rfl rfl rfl rfl ?_ | refine gpf rfl rfl rfl rfl rfl ?_)
     refine gr_nil (gk_then ?_)
     refine gc_cond rfl (fun hc2 => ?_) (fun hc2 => ?_)
     ·skip
      refine gc_seq (gc_seqr [(.mv, 0)] rfl ?_)
      refine ga rfl rfl rfl rfl ?_
      refine gr_nil (gk_then ?_)
      refine gc_ret ?_
      refine gk_ret_then ?_
      refine gk_result (L' := L) (.inl rfl) _ (res1 rfl rfl) sbl gle ?_
      refine ⟨?_, rfl, rfl⟩
      congr 1
      rw [Bool.eq_iff_iff, good_iff]
      have hgl := gN_le o.draft
      have hrl := rN_le o.preds
      simp only [beq_iff_eq, beq_eq_false_iff_ne, iN_t, iN_f, bN_t, bN_f, Bool.not_eq_true', Bool.not_eq_false', decide_eq_true_iff, decide_eq_false_iff_not, gN_t, gN_f, ne_eq, Bool.false_eq_true, iff_false, false_iff, true_iff, iff_true, Bool.not_not, Decidable.not_not] at * <;> omega
     ·skip
      refine gc_skip ?_
      refine gk_then ?_
      refine gc_seq (gc_seqr [(.mv, 0), (.mv, 1), (.nm, 2), (.mv, 3), (.mv, 4), (.mv, 5), (.mv, 6), (.mv, 7), (.mv, 8), (.mv, 9), (.mv, 10), (.mv, 11), (.mv, 12), (.mv, 13)] rfl ?_)
      refine gr_rd rfl rfl rfl (rd_fieldAddr Tryd.fa38_0 rfl) ?_
      refine gr_rd rfl rfl rfl (rd_loadA Tryd.ta36 rfl (Cells.own List.mem_cons_self) (encOp_seg_draft o _) (encDraft_length _)) ?_
      refine gr_nx rfl rfl rfl (nx_call Tryd.en62 rfl (rgoodDraft_cc _ _ o.draft)) ?_; rintro v56 H' L' hle ⟨rfl, rfl, rfl⟩; refine ⟨trivial, ?_⟩
      refine gm rfl rfl rfl rfl ?_
      refine gr_split rfl (fun hg3 => ?_) (fun hg3 => ?_)
      ·skip
       refine gr_rd rfl rfl rfl (rd_fieldAddr Tryd.fa38_1 rfl) ?_
       refine gr_rd rfl rfl rfl (rd_load1 Tryd.to3 rfl cel at1) ?_
       refine gr_rd rfl rfl rfl (rd_geq rfl rfl) ?_
       (first | refine gpt rfl rfl rfl rfl rfl ?_ | refine gpf rfl rfl rfl rfl rfl ?_)
       refine gm rfl rfl rfl rfl ?_
       refine gr_split rfl (fun hg8 => ?_) (fun hg8 => ?_)
       ·skip
        refine gr_rd rfl rfl rfl (rd_fieldAddr Tryd.fa38_1 rfl) ?_
        refine gr_rd rfl rfl rfl (rd_load1 Tryd.to3 rfl cel at1) ?_
        refine gr_rd rfl rfl rfl (rd_leq rfl rfl) ?_
        (first | refine gpt rfl rfl rfl rfl rfl ?_ | refine gpf rfl rfl rfl rfl rfl ?_)
        refine ga rfl rfl rfl rfl ?_
        refine gr_nil (gk_then ?_)
        refine gc_ret ?_
        refine gk_result (L' := L) (.inl rfl) _ (res1 rfl rfl) sbl gle ?_
        refine ⟨?_, rfl, rfl⟩
        congr 1
        rw [Bool.eq_iff_iff, good_iff]
        have hgl := gN_le o.draft
        have hrl := rN_le o.preds
        simp only [beq_iff_eq, beq_eq_false_iff_ne, iN_t, iN_f, bN_t, bN_f, Bool.not_eq_true', Bool.not_eq_false', decide_eq_true_iff, decide_eq_false_iff_not, gN_t, gN_f, ne_eq, Bool.false_eq_true, iff_false, false_iff, true_iff, iff_true, Bool.not_not, Decidable.not_not] at * <;> omega
       ·skip
        refine gr_no rfl rfl rfl ?_
        refine gr_no rfl rfl rfl ?_
        refine gr_no rfl rfl rfl ?_
        (first | refine gpt rfl rfl rfl rfl rfl ?_ | refine gpf rfl rfl rfl rfl rfl ?_)
        refine ga rfl rfl rfl rfl ?_
        refine gr_nil (gk_then ?_)
        refine gc_ret ?_
        refine gk_result (L' := L) (.inl rfl) _ (res1 rfl rfl) sbl gle ?_
        refine ⟨?_, rfl, rfl⟩
        congr 1
        rw [Bool.eq_iff_iff, good_iff]
        have hgl := gN_le o.draft
        have hrl := rN_le o.preds
        simp only [beq_iff_eq, beq_eq_false_iff_ne, iN_t, iN_f, bN_t, bN_f, Bool.not_eq_true', Bool.not_eq_false', decide_eq_true_iff, decide_eq_false_iff_not, gN_t, gN_f, ne_eq, Bool.false_eq_true, iff_false, false_iff, true_iff, iff_true, Bool.not_not, Decidable.not_not] at * <;> omega
      ·skip
       refine gr_no rfl rfl rfl ?_
       refine gr_no rfl rfl rfl ?_
       refine gr_no rfl rfl rfl ?_
       (first | refine gpt rfl rfl rfl rfl rfl ?_ | refine gpf rfl rfl rfl rfl rfl ?_)
       refine gm rfl rfl rfl rfl ?_
       refine gr_no rfl rfl rfl ?_
       refine gr_no rfl rfl rfl ?_
       refine gr_no rfl rfl rfl ?_
       (first | refine gpt rfl rfl rfl rfl rfl ?_ | refine gpf rfl rfl rfl rfl rfl ?_)
       refine ga rfl rfl rfl rfl ?_
       refine gr_nil (gk_then ?_)
       refine gc_ret ?_
       refine gk_result (L' := L) (.inl rfl) _ (res1 rfl rfl) sbl gle ?_
       refine ⟨?_, rfl, rfl⟩
       congr 1
       rw [Bool.eq_iff_iff, good_iff]
       have hgl := gN_le o.draft
       have hrl := rN_le o.preds
       simp only [beq_iff_eq, beq_eq_false_iff_ne, iN_t, iN_f, bN_t, bN_f, Bool.not_eq_true', Bool.not_eq_false', decide_eq_true_iff, decide_eq_false_iff_not, gN_t, gN_f, ne_eq, Bool.false_eq_true, iff_false, false_iff, true_iff, iff_true, Bool.not_not, Decidable.not_not] at * <;> omega
end Go.Proofs.YtfhldfjknagidaaDoor

/-
  How the reference's set of operations lies in memory; plain facts on searching.
-/
set_option linter.unusedSimpArgs false
set_option linter.unusedVariables false
set_option linter.unnecessarySimpa false
set_option linter.all false
namespace Go.VK
open Go.Tr

/-- The place of a name, or -1. -/
def posOf (l : List Nm) (n : Nm) : Int := match l.findIdx? (· == n) with | some i => (i : Int) | none => -1
theorem posOf_hit {l : List Nm} {n : Nm} {k : Nat} (h : ∀ j, j < k → l[j]? ≠ some n) (hk : l[k]? = some n) : posOf l n = k := by
  have : l.findIdx? (· == n) = some k := by
    rw [List.findIdx?_eq_some_iff_getElem]
    obtain ⟨h1, h2⟩ := List.getElem?_eq_some_iff.1 hk
    refine ⟨h1, by simp [h2], fun j hj => ?_⟩
    have := h j hj
    rw [List.getElem?_eq_getElem (by omega)] at this
    simpa using fun e => this (by rw [e])
  rw [posOf, this]
theorem posOf_miss {l : List Nm} {n : Nm} {k : Nat} (h : ∀ j, j < k → l[j]? ≠ some n) (hk : l.length ≤ k) : posOf l n = -1 := by
  have : l.findIdx? (· == n) = none := by
    rw [List.findIdx?_eq_none_iff]
    intro x hx
    obtain ⟨j, hj, rfl⟩ := List.getElem_of_mem hx
    have := h j (by omega)
    rw [List.getElem?_eq_getElem hj] at this
    simpa using fun e => this (by rw [e])
  rw [posOf, this]
theorem has_hit {l : List (Nm × POp)} {n : Nm} {k : Nat} (hk : (l.map (·.1))[k]? = some n) : has l n = true := by
  rw [List.getElem?_map] at hk
  cases hx : l[k]? with
  | none => rw [hx] at hk; cases hk
  | some p =>
    rw [hx] at hk
    simp only [Option.map_some, Option.some.injEq] at hk
    exact List.any_eq_true.2 ⟨p, List.mem_of_getElem? hx, by simp [hk]⟩
theorem has_miss {l : List (Nm × POp)} {n : Nm} {k : Nat} (h : ∀ j, j < k → (l.map (·.1))[j]? ≠ some n) (hk : (l.map (·.1)).length ≤ k) : has l n = false := by
  rw [has, List.any_eq_false]
  intro p hp
  obtain ⟨j, hj, rfl⟩ := List.getElem_of_mem hp
  have := h j (by simp at hk; omega)
  simpa [List.getElem?_map, List.getElem?_eq_getElem hj] using this
theorem has_iff {l : List (Nm × POp)} {n : Nm} : has l n = true ↔ ∃ k : Nat, (l.map (·.1))[k]? = some n := by
  constructor
  · intro h
    obtain ⟨p, hp, he⟩ := List.any_eq_true.1 h
    obtain ⟨j, hj, rfl⟩ := List.getElem_of_mem hp
    refine ⟨j, ?_⟩
    rw [List.getElem?_map, List.getElem?_eq_getElem hj]
    simpa using he
  · rintro ⟨k, hk⟩; exact has_hit hk
theorem posOf_has {l : List (Nm × POp)} {n : Nm} : (decide (posOf (l.map (·.1)) n < 0)) = !has l n := by
  cases h : (l.map (·.1)).findIdx? (· == n) with
  | none =>
    have : has l n = false := by
      rw [List.findIdx?_eq_none_iff] at h
      rw [has, List.any_eq_false]
      intro p hp
      have := h p.1 (List.mem_map.2 ⟨p, hp, rfl⟩)
      simp at this ⊢; exact this
    simp [posOf, h, this]
  | some i =>
    rw [List.findIdx?_eq_some_iff_getElem] at h
    obtain ⟨h1, h2, _⟩ := h
    have : has l n = true := has_hit (k := i) (by rw [List.getElem?_eq_getElem h1]; simpa using h2)
    have e : posOf (l.map (·.1)) n < 0 ↔ False := by
      have h3 : (l.map (·.1)).findIdx? (· == n) = some i := by
        rw [List.findIdx?_eq_some_iff_getElem]; exact ⟨h1, h2, by assumption⟩
      rw [posOf, h3]; simp only [iff_false]; omega
    rw [this]; simpa using e
/-- What is found at a name's place. -/
theorem posOf_get {l : List (Nm × POp)} {n : Nm} (h : has l n = true) : ∃ (k : Nat) (o : POp), posOf (l.map (·.1)) n = (k : Int) ∧ l[k]? = some (n, o) ∧ Tr.get l n = some o := by
  induction l with
  | nil => simp [has] at h
  | cons p r ih =>
    by_cases e : p.1 = n
    · refine ⟨0, p.2, ?_, ?_, ?_⟩
      · simp [posOf, List.findIdx?_cons, e]
      · simp [← e]
      · simp [Tr.get, List.find?_cons, e]
    · have h' : has r n = true := by
        simp only [has, List.any_cons] at h ⊢
        have : (p.1 == n) = false := by simpa using e
        rw [this] at h; simpa using h
      obtain ⟨k, o, h1, h2, h3⟩ := ih h'
      refine ⟨k + 1, o, ?_, by simpa using h2, ?_⟩
      · have e1 : (p.1 == n) = false := by simpa using e
        simp only [posOf, List.map_cons, List.findIdx?_cons, e1] at h1 ⊢
        cases hf : (r.map (·.1)).findIdx? (· == n) with
        | none => rw [hf] at h1; exact absurd h1 (by simp only; omega)
        | some i =>
          rw [hf] at h1
          simp only at h1
          have : i = k := by omega
          subst this; rfl
      · have e1 : (p.1 == n) = false := by simpa using e
        simp only [Tr.get, List.find?_cons, e1] at h3 ⊢
        exact h3

theorem Ow.one {e k n : Nat} {C : Chunks} {v : Value} {cs : List Value} (h : Ow e k C v n cs) : v.oneCell' = true := by
  obtain ⟨a, cap, rfl, _⟩ := h.slice; rfl
theorem cells1 {v : Value} (h : v.oneCell' = true) : v.cells.toList = [v] := by cases v <;> first | rfl | (simp [Value.oneCell'] at h)

/-! ## Rows of elements of k cells -/
section
variable {α : Type} {enc : α → List Value} {k : Nat}
theorem flat_len (hk : ∀ x, (enc x).length = k) : ∀ xs : List α, (xs.flatMap enc).length = xs.length * k
  | [] => by simp
  | x :: r => by rw [List.flatMap_cons, List.length_append, hk, flat_len hk r, List.length_cons, Nat.succ_mul]; omega
theorem flat_takek (hk : ∀ x, (enc x).length = k) : ∀ (xs : List α) (j : Nat), j ≤ xs.length → (xs.flatMap enc).take (j * k) = (xs.take j).flatMap enc
  | xs, 0, _ => by simp
  | [], j + 1, h => by simp at h
  | x :: r, j + 1, h => by
    rw [List.flatMap_cons, List.take_succ_cons, List.flatMap_cons, ← flat_takek hk r j (by simpa using h), Nat.succ_mul, List.take_append, List.take_of_length_le (by rw [hk]; omega), hk, show j * k + k - k = j * k by omega]
theorem flat_dropk (hk : ∀ x, (enc x).length = k) : ∀ (xs : List α) (j : Nat), j ≤ xs.length → (xs.flatMap enc).drop (j * k) = (xs.drop j).flatMap enc
  | xs, 0, _ => by simp
  | [], j + 1, h => by simp at h
  | x :: r, j + 1, h => by
    rw [List.flatMap_cons, List.drop_succ_cons, ← flat_dropk hk r j (by simpa using h), Nat.succ_mul, List.drop_append, List.drop_eq_nil_of_le (by rw [hk]; omega), hk, show j * k + k - k = j * k by omega, List.nil_append]
theorem flat_seg (hk : ∀ x, (enc x).length = k) : ∀ (xs : List α) (j : Nat) (x : α), xs[j]? = some x → Seg (xs.flatMap enc) (j * k) (enc x)
  | [], j, x, h => by simp at h
  | y :: r, 0, x, h => by
    simp only [List.getElem?_cons_zero, Option.some.injEq] at h
    subst h
    rw [List.flatMap_cons, Nat.zero_mul]; exact Seg.head
  | y :: r, j + 1, x, h => by
    rw [List.flatMap_cons]
    exact (flat_seg hk r j x (by simpa using h)).skip (by rw [hk, Nat.succ_mul]; omega)
theorem flat_ones (h1 : ∀ x, oneCells (enc x)) (xs : List α) : oneCells (xs.flatMap enc) := fun u hu => by
  obtain ⟨x, _, hx⟩ := List.mem_flatMap.1 hu
  exact h1 x u hx
/-- An owned slice reads as its elements. -/
theorem Ow.slT {H : Gh} {L C : Chunks} {e n : Nat} {v : Value} {xs : List α} (hk : ∀ x, (enc x).length = k) (hO : Ow e k C v n (xs.flatMap enc)) (hn : xs.length = n) (hlt : n < 4611686018427387904) (hC : ∀ x ∈ C, x ∈ L) : SlT enc k H L v xs := by
  obtain ⟨a, cap, rfl, hcap⟩ := hO.slice
  subst hn
  by_cases h0 : xs.length = 0
  · have : xs = [] := List.length_eq_zero_iff.1 h0
    subst this
    exact ⟨a, 0, 0, cap, [], rfl, hcap, hlt, fun ha => ⟨rfl, (hO.notnil ha).2⟩, fun h => absurd rfl h, fun j x hx => by simp at hx⟩
  · obtain ⟨b, l, rfl, h1, h2⟩ := hO.elem h0
    refine ⟨_, b, 0, cap, l, rfl, hcap, hlt, (fun h => by cases h), fun _ => ⟨rfl, h1 H L hC⟩, fun j x hx => ?_⟩
    rw [Nat.zero_add]
    have := h2.trans (flat_seg hk xs j x hx)
    rwa [Nat.zero_add] at this
/-- The elements from lo to hi of a slice, as what append takes. -/
theorem SlT.src {P : Program} {H : Gh} {L : Chunks} {v : Value} {xs : List α} (hk : ∀ x, (enc x).length = k) (h1 : ∀ x, oneCells (enc x)) (h : SlT enc k H L v xs) : Src P H L k v xs.length (xs.flatMap enc) := by
  obtain ⟨a, b, o, c, l, rfl, hc, hn, h0, h3, h2⟩ := h
  refine src_slice (b := b) (o := o) (l := l) (flat_len hk xs) (flat_ones h1 xs) (fun ha => by simp [(h0 ha).1]) (fun _ hne => ?_)
  have hne' : xs ≠ [] := fun e => hne (by simp [e])
  refine ⟨(h3 hne').1, (h3 hne').2, fun j u hu => ?_⟩
  have hj := (List.getElem?_eq_some_iff.1 hu).1
  rw [flat_len hk] at hj
  have hk0 : 0 < k := by
    rcases Nat.eq_zero_or_pos k with h | h
    · subst h; simp at hj
    · exact h
  have hq : j / k < xs.length := (Nat.div_lt_iff_lt_mul hk0).2 hj
  have hx : xs[j / k]? = some xs[j / k] := List.getElem?_eq_getElem hq
  have hdm : j / k * k + j % k = j := by rw [Nat.mul_comm]; exact Nat.div_add_mod j k
  have hr : j % k < (enc xs[j / k]).length := by rw [hk]; exact Nat.mod_lt _ hk0
  have e1 := flat_seg hk xs (j / k) _ hx (j % k) _ (List.getElem?_eq_getElem hr)
  rw [hdm, hu] at e1
  have e2 := h2 (j / k) _ hx (j % k) _ (List.getElem?_eq_getElem hr)
  rw [Nat.add_assoc, hdm] at e2
  rw [e2, ← e1]
theorem SlT.srcN {P : Program} {H : Gh} {L : Chunks} {v : Value} {xs : List α} {n : Nat} (hk : ∀ x, (enc x).length = k) (h1 : ∀ x, oneCells (enc x)) (h : SlT enc k H L v xs) (hn : xs.length = n) : Src P H L k v n (xs.flatMap enc) := by
  subst hn; exact h.src hk h1
theorem SlT.lo {H : Gh} {L : Chunks} {a : Option Addr} {n cap l : Nat} {xs : List α} (h : SlT enc k H L (.slice a n cap) xs) (hl : l ≤ xs.length) : SlT enc k H L (.slice (if cap = l then a else a.map (·.add (l * k))) (n - l) (cap - l)) (xs.drop l) := by
  obtain ⟨a', b, o, c, ls, he, hc, hn, h0, h3, h2⟩ := h
  cases he
  refine ⟨_, b, o + l * k, _, ls, by rw [List.length_drop], by simp; omega, by simp; omega, fun ha => ?_, fun hne => ?_, fun j x hx => ?_⟩
  · split at ha
    · rename_i hcl
      have := h0 ha
      exact ⟨by rw [this.1]; simp, by omega⟩
    · cases a with
      | none => have := h0 rfl; exact ⟨by rw [this.1]; simp, by omega⟩
      | some q => simp at ha
  · have hlt : l < xs.length := by
      rcases Nat.lt_or_ge l xs.length with h | h
      · exact h
      · exact absurd (List.drop_eq_nil_of_le h) hne
    have hne' : xs ≠ [] := fun e => by subst e; simp at hlt
    obtain ⟨h4, h5⟩ := h3 hne'
    subst h4
    rw [if_neg (by omega)]
    exact ⟨by simp [addr_add], h5⟩
  · have := h2 (l + j) x (by simpa using hx)
    rwa [Nat.add_mul, ← Nat.add_assoc] at this
theorem SlT.hi {H : Gh} {L : Chunks} {a : Option Addr} {n cap m h' : Nat} {xs : List α} (h : SlT enc k H L (.slice a n cap) xs) (hh : h' ≤ xs.length) (hm : h' ≤ m) (hm0 : a = none → m = 0) : SlT enc k H L (.slice a h' m) (xs.take h') := by
  obtain ⟨a', b, o, c, ls, he, hc, hn, h0, h3, h2⟩ := h
  cases he
  refine ⟨_, b, o, m, ls, by rw [List.length_take, Nat.min_eq_left hh], by simp; omega, by simp; omega, fun ha => ⟨by rw [(h0 ha).1]; simp, hm0 ha⟩, fun hne => ?_, fun j x hx => ?_⟩
  · exact h3 (fun e => hne (by rw [e]; simp))
  · refine h2 j x ?_
    rw [List.getElem?_take] at hx
    split at hx
    · exact hx
    · cases hx
end
section
variable {P : Program} {E : Env} {H : Gh} {L : Chunks} {t T : TypeId} {x : Operand}
/-- s[:h:h] -/
theorem rd_slice3 {e : TypeId} {n len cap h : Nat} {a : Option Addr} {q q' : Operand} {kk kk' : IntKind} {i i' : Int} (hT : P.underlying T = some (.slice e)) (hk : ∀ w, (sizeOf e).run P w = .ok n w) (hx : ev E x = some (.slice a len cap))
    (hq : ev E q = some (.int kk i)) (hi : i = (h : Int)) (hq' : ev E q' = some (.int kk' i')) (hi' : i' = (h : Int)) (hh : h ≤ cap) : Rd P E H L (.slice T x none (some q) (some q')) t (.slice a h h) := fun A w m hA _ => by
  subst hi hi'
  have e1 : a.map (fun x : Addr => x.add 0) = a := by
    cases a with
    | none => rfl
    | some p => simp [Addr.add]
  simp [execOp, hA.ev hx, hA.ev hq, hA.ev hq', Instr.sliceAt, Instr.slice, run_underlying hT, Instr.sliceBounds, Instr.sliceBound, asIntOf, hk, hh, e1]
/-- s[:h] -/
theorem rd_sliceHiA {e : TypeId} {n len cap h : Nat} {a : Option Addr} {q : Operand} {kk : IntKind} {i : Int} (hT : P.underlying T = some (.slice e)) (hk : ∀ w, (sizeOf e).run P w = .ok n w) (hx : ev E x = some (.slice a len cap))
    (hq : ev E q = some (.int kk i)) (hi : i = (h : Int)) (hh : h ≤ cap) : Rd P E H L (.slice T x none (some q) none) t (.slice a h cap) := by
  have r := rd_sliceS (H := H) (L := L) (t := t) (lo := none) (hi := some q) (l := 0) (h := h) hT hk hx rfl ⟨kk, i, hq, hi⟩ (Nat.zero_le _) hh
  have e1 : (if cap = 0 then a else a.map (fun x : Addr => x.add (0 * n))) = a := by
    rw [Nat.zero_mul]
    split
    · rfl
    · cases a with
      | none => rfl
      | some p => simp [Addr.add]
  rw [e1] at r
  exact r
/-- s[l:] -/
theorem rd_sliceLoA {e : TypeId} {n len cap l : Nat} {a : Option Addr} {q : Operand} {kk : IntKind} {i : Int} (hT : P.underlying T = some (.slice e)) (hk : ∀ w, (sizeOf e).run P w = .ok n w) (hx : ev E x = some (.slice a len cap))
    (hq : ev E q = some (.int kk i)) (hi : i = (l : Int)) (hl : l ≤ len) (hc : len ≤ cap) : Rd P E H L (.slice T x (some q) none none) t (.slice (if cap = l then a else a.map (·.add (l * n))) (len - l) (cap - l)) :=
  rd_sliceS (lo := some q) (hi := none) hT hk hx ⟨kk, i, hq, hi⟩ rfl hl hc
end

/-- A set as it is looked at. -/
structure RView (H : Gh) (L : Chunks) (b : Nat) (s : DSet) (v0 v1 v2 v3 : Value) (ov wv : List (POp × Value)) : Prop where
  cells : Cells H L b [v0, v1, v2, v3]
  ops : OpsAt H L v0 ov
  opsE : ov.map (·.1) = s.ops.map (·.2)
  wait : OpsAt H L v1 wv
  waitE : wv.map (·.1) = s.wait.map (·.2)
  names : Ids H L v2 (s.ops.map (·.1))
  waits : Ids H L v3 (s.wait.map (·.1))
theorem OpsAt.mono {H H' : Gh} {L L' : Chunks} {v : Value} {xs : List (POp × Value)} (h : OpsAt H L v xs) (hH : H ≤ H') (hL : ∀ x ∈ L, x ∈ L') : OpsAt H' L' v xs :=
  ⟨h.1.mono hH hL, fun p hp => (h.2 p hp).up hH⟩
theorem RView.mono {H H' : Gh} {L L' : Chunks} {b : Nat} {s : DSet} {v0 v1 v2 v3 : Value} {ov wv : List (POp × Value)} (h : RView H L b s v0 v1 v2 v3 ov wv) (hH : H ≤ H') (hL : ∀ x ∈ L, x ∈ L') :
    RView H' L' b s v0 v1 v2 v3 ov wv := ⟨h.cells.mono hH hL, h.ops.mono hH hL, h.opsE, h.wait.mono hH hL, h.waitE, h.names.mono hH hL, h.waits.mono hH hL⟩
end Go.VK

/-
  Walks: the reference's set of operations: what only looks.
-/
set_option linter.unusedSimpArgs false
set_option linter.unusedVariables false
set_option linter.unnecessarySimpa false
set_option linter.all false
namespace Go.Proofs.YtfhldfjknagidaaDoor
open Go.VK Go.Tr
set_option maxRecDepth 20000
attribute [local irreducible] Go.Tr.sha
theorem ne_step {l : List Nm} {n x : Nm} {k : Nat} (h : ∀ j, j < k → l[j]? ≠ some n) (hx : l[k]? = some x) (hne : (x.bytes == n.bytes) = false) : ∀ j, j < k + 1 → l[j]? ≠ some n := fun j hj => by
  by_cases e : j = k
  · subst e; rw [hx]
    intro e; cases e; simp at hne
  · exact h j (by omega)
theorem eq_name {x n : Nm} (h : (x.bytes == n.bytes) = true) : x = n := Nm.ext' (by simpa using h)
theorem getD_at {l : List Nm} {k : Nat} (h : k < l.length) : l[k]? = some (l.getD k Nm.zero) := by
  rw [List.getD_eq_getElem?_getD, List.getElem?_eq_getElem h]; rfl
theorem contains_hit {l : List Nm} {n : Nm} {k : Nat} (h : l[k]? = some n) : l.contains n = true := by
  rw [List.contains_iff_mem]; exact List.mem_of_getElem? h
theorem contains_miss {l : List Nm} {n : Nm} {k : Nat} (h : ∀ j, j < k → l[j]? ≠ some n) (hk : l.length ≤ k) : l.contains n = false := by
  rw [← Bool.not_eq_true, List.contains_iff_mem]
  intro hm
  obtain ⟨j, hj, rfl⟩ := List.getElem_of_mem hm
  exact h j (by omega) (List.getElem?_eq_getElem hj)
theorem whole_miss {s : DSet} {o : POp} {k : Nat} {n : Nm} (h : o.preds[k]? = some n) (hn : has s.ops n = false) : whole s o = false := by
  rw [whole, List.all_eq_false]; exact ⟨n, List.mem_of_getElem? h, by simp [hn]⟩
theorem whole_hit {s : DSet} {o : POp} (h : ∀ j, j < o.preds.length → has s.ops (o.preds.getD j Nm.zero) = true) : whole s o = true := by
  rw [whole, List.all_eq_true]
  intro n hn
  obtain ⟨j, hj, rfl⟩ := List.getElem_of_mem hn
  have := h j hj
  rwa [List.getD_eq_getElem?_getD, List.getElem?_eq_getElem hj] at this
theorem deepest_step {s : DSet} {l : List Nm} {k : Nat} {n : Nm} {o : POp} (hn : l[k]? = some n) (ho : Tr.get s.ops n = some o) : deepest s (l.take (k + 1)) = max (deepest s (l.take k)) o.depth := by
  rw [List.take_add_one, hn]
  simp [deepest, List.foldl_append, ho]

theorem in_cc (H : Gh) (L : Chunks) (v : Value) (l : List Nm) (n : Nm) (hl : Ids H L v l) :
    CC Tryd.prog 17 #[v, ag (encId n)] H L (fun v H' L' => v = .bool (l.contains n) ∧ H = H' ∧ L = L') := by
 obtain ⟨A, bv, of, cv, lv, rfl, hcv, hnv, hv0, hv1, hv2⟩ := hl
 refine cc_of Tryd.func17 rfl (Nat.le_of_ble_eq_true rfl) ?_
 simp only [Tryd.ntmps17]
 refine gc_seq (gc_seqr [(.nm, 0), (.mv, 1)] rfl ?_)
 refine gr_nx rfl rfl rfl (nx_box rfl rfl) ?_; rintro _ _ _ _ ⟨b3, rfl, rfl, rfl⟩; refine ⟨trivial, ?_⟩
 refine ga rfl rfl rfl rfl ?_
 refine gr_nil (gk_then ?_)
 refine gc_seq ?_
 refine gc_seq (gc_seqr [(.mv, 0), (.mv, 1), (.mv, 2)] rfl ?_)
 refine gm rfl rfl rfl rfl ?_
 refine gr_rd rfl rfl rfl (rd_lenS Tryd.underlying29 rfl) ?_
 refine gm rfl rfl rfl rfl ?_
 refine gr_nil (gk_then ?_)
 refine gc_block ?_
 refine gc_loop (fun k : Nat => [(3, pt b3 0), (7, .slice A l.length cv), (8, i64 l.length), (9, i64 k)]) (fun k H1 L1 => H = H1 ∧ (b3, .cells (encId n).toArray 34 (0, 0)) :: L = L1 ∧ k ≤ l.length ∧ ∀ j, j < k → l[j]? ≠ some n) (fun k => l.length - k) (0) ?_ sbs ?_
 ·exact ⟨rfl, rfl, Nat.zero_le _, fun j hj => absurd hj (Nat.not_lt_zero _)⟩
 ·rintro k H1 L1 ⟨rfl, rfl, hk, hj⟩
  refine gc_seq (gc_seqr [(.mv, 0)] rfl ?_)
  refine gr_rd rfl rfl rfl (rd_lss rfl rfl) ?_
  refine gr_nil (gk_then ?_)
  refine gc_seq ?_
  refine gc_cond rfl (fun hc0 => ?_) (fun hc0 => ?_)
  ·have hlt : k < l.length := by simpa using hc0
   obtain ⟨hAe, hca, hsa⟩ := ids_at2 (i := (k : Int)) hv1 hv2 hlt rfl
   refine gc_skip ?_
   refine gk_then ?_
   refine gc_seq ?_
   refine gc_block ?_
   refine gc_seq (gc_seqr [(.mv, 0), (.mv, 1), (.nm, 2), (.nm, 3)] rfl ?_)
   refine gr_rd rfl rfl rfl (rd_indexS Tryd.underlying29 Tryd.sizeOf34 rfl rfl hAe (by omega) (by omega)) ?_
   refine gr_rd rfl rfl rfl (rd_loadA Tryd.ta34 rfl (mono_cons hca) hsa (encId_length _)) ?_
   refine gr_nx rfl rfl rfl (nx_alloc Tryd.zeroValue34 rfl) ?_; rintro _ _ _ _ ⟨b6, rfl, rfl, rfl⟩; refine ⟨trivial, ?_⟩
   refine gr_nx0 rfl rfl (nx_store (vs := encId (l.getD k Nm.zero)) Tryd.sizeOf34 rfl rfl rfl (encId_length _) Upd.here (by simp) (encId_ones _)) ?_; rintro _ _ _ _ ⟨rfl, rfl, rfl⟩; refine ⟨trivial, ?_⟩
   rw [wr_all (by rw [encId_length]; exact Nat.le_refl _)]
   refine gr_nil (gk_then ?_)
   refine gc_seq (gc_seqr [(.mv, 0), (.mv, 1), (.mv, 2)] rfl ?_)
   refine gr_rd rfl rfl rfl (rd_loadA Tryd.ta34 rfl cel sg lnk) ?_
   refine gr_rd rfl rfl rfl (rd_loadA Tryd.ta34 rfl cel sg lnk) ?_
   refine gr_rd rfl rfl rfl (rd_arrEq Tryd.tb34 (by first | exact Nm.len _ | assumption | simp) (by first | exact Nm.len _ | assumption | simp) rfl rfl) ?_
   refine gr_nil (gk_then ?_)
   refine gc_cond rfl (fun hc1 => ?_) (fun hc1 => ?_)
   ·have hhit : l[k]? = some n := by rw [getD_at hlt, eq_name hc1]
    refine gc_seq (gc_seqr [(.mv, 0)] rfl ?_)
    refine ga rfl rfl rfl rfl ?_
    refine gr_nil (gk_then ?_)
    refine gc_ret ?_
    refine gk_ret_inBlock ?_
    refine gk_ret_then ?_
    refine gk_ret_then ?_
    refine gk_ret_inBlock ?_
    refine gk_ret_then ?_
    refine gk_result (L' := L) (.inl rfl) _ (res1 rfl rfl) sbl gle ?_
    exact ⟨by rw [contains_hit hhit], rfl, rfl⟩
   ·skip
    refine gc_skip ?_
    refine gk_inBlock ?_
    refine gk_then ?_
    refine gc_seqr [(.mv, 0), (.mv, 1)] rfl ?_
    (first | refine gr_rd rfl rfl rfl (rd_add rfl rfl (IntWalk.i64_in _ (by omega))) ?_ | refine gr_rd rfl rfl rfl (rd_add rfl rfl rfl) ?_)
    refine gm rfl rfl rfl rfl ?_
    refine gr_nil ?_
    refine gk_drop (L' := (b3, .cells (encId n).toArray 34 (0, 0)) :: L) sbl ?_
    refine gk_round (k + 1) (by omega) ⟨rfl, rfl, by omega, ne_step hj (getD_at hlt) hc1⟩ sbs
  ·have hge : l.length ≤ k := by simp at hc0; omega
   refine gc_exit ?_
   refine gk_exit_then ?_
   refine gk_exit_then ?_
   refine gk_here ?_
   refine gk_then ?_
   refine gc_seq (gc_seqr [(.mv, 0)] rfl ?_)
   refine ga rfl rfl rfl rfl ?_
   refine gr_nil (gk_then ?_)
   refine gc_ret ?_
   refine gk_result (L' := L) (.inl rfl) _ (res1 rfl rfl) sbl gle ?_
   exact ⟨by rw [contains_miss hj hge], rfl, rfl⟩
theorem rat_cc (H : Gh) (L : Chunks) {b : Nat} {s : DSet} {v0 v1 v2 v3 : Value} {ov wv : List (POp × Value)} (hV : RView H L b s v0 v1 v2 v3 ov wv) (n : Nm) :
    CC Tryd.prog 23 #[pt b 0, ag (encId n)] H L (fun v H' L' => v = i64 (posOf (s.ops.map (·.1)) n) ∧ H = H' ∧ L = L') := by
 obtain ⟨ns, hns⟩ : ∃ ns, s.ops.map (·.1) = ns := ⟨_, rfl⟩
 have hN := hV.names
 rw [hns] at hN
 obtain ⟨A, bv, of, cv, lv, rfl, hcv, hnv, hv0, hv1, hv2⟩ := hN
 rw [hns]
 refine cc_of Tryd.func23 rfl (Nat.le_of_ble_eq_true rfl) ?_
 simp only [Tryd.ntmps23]
 refine gc_seq (gc_seqr [(.nm, 0), (.mv, 1)] rfl ?_)
 refine gr_nx rfl rfl rfl (nx_box rfl rfl) ?_; rintro _ _ _ _ ⟨b3, rfl, rfl, rfl⟩; refine ⟨trivial, ?_⟩
 refine ga rfl rfl rfl rfl ?_
 refine gr_nil (gk_then ?_)
 refine gc_seq ?_
 refine gc_seq (gc_seqr [(.mv, 0), (.mv, 1), (.mv, 2), (.mv, 3), (.mv, 4), (.mv, 5)] rfl ?_)
 refine gm rfl rfl rfl rfl ?_
 refine gr_rd rfl rfl rfl (rd_nilCheck rfl) ?_
 refine gr_rd rfl rfl rfl (rd_fieldAddr Tryd.fa48_2 rfl) ?_
 refine gr_rd rfl rfl rfl (rd_load1 Tryd.to29 rfl (mono_cons hV.cells) rfl) ?_
 refine gr_rd rfl rfl rfl (rd_lenS Tryd.underlying29 rfl) ?_
 refine gm rfl rfl rfl rfl ?_
 refine gr_nil (gk_then ?_)
 refine gc_block ?_
 refine gc_loop (fun k : Nat => [(3, pt b3 0), (10, .slice A ns.length cv), (11, i64 ns.length), (12, i64 k)]) (fun k H1 L1 => H = H1 ∧ (b3, .cells (encId n).toArray 34 (0, 0)) :: L = L1 ∧ k ≤ ns.length ∧ ∀ j, j < k → ns[j]? ≠ some n) (fun k => ns.length - k) (0) ?_ sbs ?_
 ·exact ⟨rfl, rfl, Nat.zero_le _, fun j hj => absurd hj (Nat.not_lt_zero _)⟩
 ·rintro k H1 L1 ⟨rfl, rfl, hk, hj⟩
  refine gc_seq (gc_seqr [(.mv, 0)] rfl ?_)
  refine gr_rd rfl rfl rfl (rd_lss rfl rfl) ?_
  refine gr_nil (gk_then ?_)
  refine gc_seq ?_
  refine gc_cond rfl (fun hc0 => ?_) (fun hc0 => ?_)
  ·have hlt : k < ns.length := by simpa using hc0
   obtain ⟨hAe, hca, hsa⟩ := ids_at2 (i := (k : Int)) hv1 hv2 hlt rfl
   refine gc_skip ?_
   refine gk_then ?_
   refine gc_seq ?_
   refine gc_block ?_
   refine gc_seq (gc_seqr [(.mv, 0), (.mv, 1), (.mv, 2), (.nm, 3), (.mv, 4), (.nm, 5)] rfl ?_)
   refine gm rfl rfl rfl rfl ?_
   refine gr_rd rfl rfl rfl (rd_indexS Tryd.underlying29 Tryd.sizeOf34 rfl rfl hAe (by omega) (by omega)) ?_
   refine gr_rd rfl rfl rfl (rd_loadA Tryd.ta34 rfl (mono_cons hca) hsa (encId_length _)) ?_
   refine gr_nx rfl rfl rfl (nx_alloc Tryd.zeroValue34 rfl) ?_; rintro _ _ _ _ ⟨b6, rfl, rfl, rfl⟩; refine ⟨trivial, ?_⟩
   refine ga rfl rfl rfl rfl ?_
   refine gr_nx0 rfl rfl (nx_store (vs := encId (ns.getD k Nm.zero)) Tryd.sizeOf34 rfl rfl rfl (encId_length _) Upd.here (by simp) (encId_ones _)) ?_; rintro _ _ _ _ ⟨rfl, rfl, rfl⟩; refine ⟨trivial, ?_⟩
   rw [wr_all (by rw [encId_length]; exact Nat.le_refl _)]
   refine gr_nil (gk_then ?_)
   refine gc_seq (gc_seqr [(.mv, 0), (.mv, 1), (.mv, 2)] rfl ?_)
   refine gr_rd rfl rfl rfl (rd_loadA Tryd.ta34 rfl cel sg lnk) ?_
   refine gr_rd rfl rfl rfl (rd_loadA Tryd.ta34 rfl cel sg lnk) ?_
   refine gr_rd rfl rfl rfl (rd_arrEq Tryd.tb34 (by first | exact Nm.len _ | assumption | simp) (by first | exact Nm.len _ | assumption | simp) rfl rfl) ?_
   refine gr_nil (gk_then ?_)
   refine gc_cond rfl (fun hc1 => ?_) (fun hc1 => ?_)
   ·have hhit : ns[k]? = some n := by rw [getD_at hlt, eq_name hc1]
    refine gc_seq (gc_seqr [(.mv, 0), (.mv, 1)] rfl ?_)
    refine gm rfl rfl rfl rfl ?_
    refine ga rfl rfl rfl rfl ?_
    refine gr_nil (gk_then ?_)
    refine gc_ret ?_
    refine gk_ret_inBlock ?_
    refine gk_ret_then ?_
    refine gk_ret_then ?_
    refine gk_ret_inBlock ?_
    refine gk_ret_then ?_
    refine gk_result (L' := L) (.inl rfl) _ (res1 rfl rfl) sbl gle ?_
    exact ⟨by rw [posOf_hit hj hhit], rfl, rfl⟩
   ·skip
    refine gc_skip ?_
    refine gk_inBlock ?_
    refine gk_then ?_
    refine gc_seqr [(.mv, 0), (.mv, 1)] rfl ?_
    (first | refine gr_rd rfl rfl rfl (rd_add rfl rfl (IntWalk.i64_in _ (by omega))) ?_ | refine gr_rd rfl rfl rfl (rd_add rfl rfl rfl) ?_)
    refine gm rfl rfl rfl rfl ?_
    refine gr_nil ?_
    refine gk_drop (L' := (b3, .cells (encId n).toArray 34 (0, 0)) :: L) sbl ?_
    refine gk_round (k + 1) (by omega) ⟨rfl, rfl, by omega, ne_step hj (getD_at hlt) hc1⟩ sbs
  ·have hge : ns.length ≤ k := by simp at hc0; omega
   refine gc_exit ?_
   refine gk_exit_then ?_
   refine gk_exit_then ?_
   refine gk_here ?_
   refine gk_then ?_
   refine gc_seq (gc_seqr [(.mv, 0)] rfl ?_)
   refine ga rfl rfl rfl rfl ?_
   refine gr_nil (gk_then ?_)
   refine gc_ret ?_
   refine gk_result (L' := L) (.inl rfl) _ (res1 rfl rfl) sbl gle ?_
   exact ⟨by rw [posOf_miss hj hge], rfl, rfl⟩
theorem rwaiting_cc (H : Gh) (L : Chunks) {b : Nat} {s : DSet} {v0 v1 v2 v3 : Value} {ov wv : List (POp × Value)} (hV : RView H L b s v0 v1 v2 v3 ov wv) (n : Nm) :
    CC Tryd.prog 54 #[pt b 0, ag (encId n)] H L (fun v H' L' => v = .bool (has s.wait n) ∧ H = H' ∧ L = L') := by
 obtain ⟨ns, hns⟩ : ∃ ns, s.wait.map (·.1) = ns := ⟨_, rfl⟩
 have hN := hV.waits
 rw [hns] at hN
 obtain ⟨A, bv, of, cv, lv, rfl, hcv, hnv, hv0, hv1, hv2⟩ := hN
 refine cc_of Tryd.func54 rfl (Nat.le_of_ble_eq_true rfl) ?_
 simp only [Tryd.ntmps54]
 refine gc_seq (gc_seqr [(.nm, 0), (.mv, 1)] rfl ?_)
 refine gr_nx rfl rfl rfl (nx_box rfl rfl) ?_; rintro _ _ _ _ ⟨b3, rfl, rfl, rfl⟩; refine ⟨trivial, ?_⟩
 refine ga rfl rfl rfl rfl ?_
 refine gr_nil (gk_then ?_)
 refine gc_seq ?_
 refine gc_seq (gc_seqr [(.mv, 0), (.mv, 1), (.mv, 2), (.mv, 3), (.mv, 4), (.mv, 5)] rfl ?_)
 refine gm rfl rfl rfl rfl ?_
 refine gr_rd rfl rfl rfl (rd_nilCheck rfl) ?_
 refine gr_rd rfl rfl rfl (rd_fieldAddr Tryd.fa48_3 rfl) ?_
 refine gr_rd rfl rfl rfl (rd_load1 Tryd.to29 rfl (mono_cons hV.cells) rfl) ?_
 refine gr_rd rfl rfl rfl (rd_lenS Tryd.underlying29 rfl) ?_
 refine gm rfl rfl rfl rfl ?_
 refine gr_nil (gk_then ?_)
 refine gc_block ?_
 refine gc_loop (fun k : Nat => [(3, pt b3 0), (10, .slice A ns.length cv), (11, i64 ns.length), (12, i64 k)]) (fun k H1 L1 => H = H1 ∧ (b3, .cells (encId n).toArray 34 (0, 0)) :: L = L1 ∧ k ≤ ns.length ∧ ∀ j, j < k → ns[j]? ≠ some n) (fun k => ns.length - k) (0) ?_ sbs ?_
 ·exact ⟨rfl, rfl, Nat.zero_le _, fun j hj => absurd hj (Nat.not_lt_zero _)⟩
 ·rintro k H1 L1 ⟨rfl, rfl, hk, hj⟩
  refine gc_seq (gc_seqr [(.mv, 0)] rfl ?_)
  refine gr_rd rfl rfl rfl (rd_lss rfl rfl) ?_
  refine gr_nil (gk_then ?_)
  refine gc_seq ?_
  refine gc_cond rfl (fun hc0 => ?_) (fun hc0 => ?_)
  ·have hlt : k < ns.length := by simpa using hc0
   obtain ⟨hAe, hca, hsa⟩ := ids_at2 (i := (k : Int)) hv1 hv2 hlt rfl
   refine gc_skip ?_
   refine gk_then ?_
   refine gc_seq ?_
   refine gc_block ?_
   refine gc_seq (gc_seqr [(.mv, 0), (.mv, 1), (.nm, 2), (.nm, 3)] rfl ?_)
   refine gr_rd rfl rfl rfl (rd_indexS Tryd.underlying29 Tryd.sizeOf34 rfl rfl hAe (by omega) (by omega)) ?_
   refine gr_rd rfl rfl rfl (rd_loadA Tryd.ta34 rfl (mono_cons hca) hsa (encId_length _)) ?_
   refine gr_nx rfl rfl rfl (nx_alloc Tryd.zeroValue34 rfl) ?_; rintro _ _ _ _ ⟨b6, rfl, rfl, rfl⟩; refine ⟨trivial, ?_⟩
   refine gr_nx0 rfl rfl (nx_store (vs := encId (ns.getD k Nm.zero)) Tryd.sizeOf34 rfl rfl rfl (encId_length _) Upd.here (by simp) (encId_ones _)) ?_; rintro _ _ _ _ ⟨rfl, rfl, rfl⟩; refine ⟨trivial, ?_⟩
   rw [wr_all (by rw [encId_length]; exact Nat.le_refl _)]
   refine gr_nil (gk_then ?_)
   refine gc_seq (gc_seqr [(.mv, 0), (.mv, 1), (.mv, 2)] rfl ?_)
   refine gr_rd rfl rfl rfl (rd_loadA Tryd.ta34 rfl cel sg lnk) ?_
   refine gr_rd rfl rfl rfl (rd_loadA Tryd.ta34 rfl cel sg lnk) ?_
   refine gr_rd rfl rfl rfl (rd_arrEq Tryd.tb34 (by first | exact Nm.len _ | assumption | simp) (by first | exact Nm.len _ | assumption | simp) rfl rfl) ?_
   refine gr_nil (gk_then ?_)
   refine gc_cond rfl (fun hc1 => ?_) (fun hc1 => ?_)
   ·have hhit : ns[k]? = some n := by rw [getD_at hlt, eq_name hc1]
    refine gc_seq (gc_seqr [(.mv, 0)] rfl ?_)
    refine ga rfl rfl rfl rfl ?_
    refine gr_nil (gk_then ?_)
    refine gc_ret ?_
    refine gk_ret_inBlock ?_
    refine gk_ret_then ?_
    refine gk_ret_then ?_
    refine gk_ret_inBlock ?_
    refine gk_ret_then ?_
    refine gk_result (L' := L) (.inl rfl) _ (res1 rfl rfl) sbl gle ?_
    exact ⟨by rw [has_hit (k := k) (by rw [hns]; exact hhit)], rfl, rfl⟩
   ·skip
    refine gc_skip ?_
    refine gk_inBlock ?_
    refine gk_then ?_
    refine gc_seqr [(.mv, 0), (.mv, 1)] rfl ?_
    (first | refine gr_rd rfl rfl rfl (rd_add rfl rfl (IntWalk.i64_in _ (by omega))) ?_ | refine gr_rd rfl rfl rfl (rd_add rfl rfl rfl) ?_)
    refine gm rfl rfl rfl rfl ?_
    refine gr_nil ?_
    refine gk_drop (L' := (b3, .cells (encId n).toArray 34 (0, 0)) :: L) sbl ?_
    refine gk_round (k + 1) (by omega) ⟨rfl, rfl, by omega, ne_step hj (getD_at hlt) hc1⟩ sbs
  ·have hge : ns.length ≤ k := by simp at hc0; omega
   refine gc_exit ?_
   refine gk_exit_then ?_
   refine gk_exit_then ?_
   refine gk_here ?_
   refine gk_then ?_
   refine gc_seq (gc_seqr [(.mv, 0)] rfl ?_)
   refine ga rfl rfl rfl rfl ?_
   refine gr_nil (gk_then ?_)
   refine gc_ret ?_
   refine gk_result (L' := L) (.inl rfl) _ (res1 rfl rfl) sbl gle ?_
   exact ⟨by rw [has_miss (k := k) (by rw [hns]; exact hj) (by rw [hns]; exact hge)], rfl, rfl⟩
theorem rwhole_cc (H : Gh) (L : Chunks) {b : Nat} {s : DSet} {v0 v1 v2 v3 : Value} {ov wv : List (POp × Value)} (hV : RView H L b s v0 v1 v2 v3 ov wv) (o : POp) (pv : Value) (hp : Ids H L pv o.preds) :
    CC Tryd.prog 55 #[pt b 0, ag (encOp o pv)] H L (fun v H' L' => v = .bool (whole s o) ∧ H = H' ∧ L = L') := by
 obtain ⟨A, bv, of, cv, lv, rfl, hcv, hnv, hv0, hv1, hv2⟩ := hp
 refine cc_of Tryd.func55 rfl (Nat.le_of_ble_eq_true rfl) ?_
 simp only [Tryd.ntmps55]
 refine gc_seq (gc_seqr [(.nm, 0), (.mv, 1)] rfl ?_)
 refine gr_nx rfl rfl rfl (nx_box rfl rfl) ?_; rintro _ _ _ _ ⟨b3, rfl, rfl, rfl⟩; refine ⟨trivial, ?_⟩
 refine ga rfl rfl rfl rfl ?_
 refine gr_nil (gk_then ?_)
 refine gc_seq ?_
 refine gc_seq (gc_seqr [(.mv, 0), (.mv, 1), (.mv, 2), (.mv, 3)] rfl ?_)
 refine gr_rd rfl rfl rfl (rd_fieldAddr Tryd.fa38_3 rfl) ?_
 refine gr_rd rfl rfl rfl (rd_load1 Tryd.to29 rfl cel at1) ?_
 refine gr_rd rfl rfl rfl (rd_lenS Tryd.underlying29 rfl) ?_
 refine gm rfl rfl rfl rfl ?_
 refine gr_nil (gk_then ?_)
 refine gc_block ?_
 refine gc_loop (fun k : Nat => [(0, pt b 0), (8, .slice A o.preds.length cv), (9, i64 o.preds.length), (10, i64 k)]) (fun k H1 L1 => H = H1 ∧ (b3, .cells (encOp o (.slice A o.preds.length cv)).toArray 38 (0, 0)) :: L = L1 ∧ k ≤ o.preds.length ∧ ∀ j, j < k → has s.ops (o.preds.getD j Nm.zero) = true) (fun k => o.preds.length - k) (0) ?_ sbs ?_
 ·exact ⟨rfl, rfl, Nat.zero_le _, fun j hj => absurd hj (Nat.not_lt_zero _)⟩
 ·rintro k H1 L1 ⟨rfl, rfl, hk, hj⟩
  refine gc_seq (gc_seqr [(.mv, 0)] rfl ?_)
  refine gr_rd rfl rfl rfl (rd_lss rfl rfl) ?_
  refine gr_nil (gk_then ?_)
  refine gc_seq ?_
  refine gc_cond rfl (fun hc0 => ?_) (fun hc0 => ?_)
  ·have hlt : k < o.preds.length := by simpa using hc0
   obtain ⟨hAe, hca, hsa⟩ := ids_at2 (i := (k : Int)) hv1 hv2 hlt rfl
   refine gc_skip ?_
   refine gk_then ?_
   refine gc_seq ?_
   refine gc_block ?_
   refine gc_seq (gc_seqr [(.mv, 0), (.mv, 1), (.nm, 2), (.nm, 3)] rfl ?_)
   refine gr_rd rfl rfl rfl (rd_indexS Tryd.underlying29 Tryd.sizeOf34 rfl rfl hAe (by omega) (by omega)) ?_
   refine gr_rd rfl rfl rfl (rd_loadA Tryd.ta34 rfl (mono_cons hca) hsa (encId_length _)) ?_
   refine gr_nx rfl rfl rfl (nx_alloc Tryd.zeroValue34 rfl) ?_; rintro _ _ _ _ ⟨b6, rfl, rfl, rfl⟩; refine ⟨trivial, ?_⟩
   refine gr_nx0 rfl rfl (nx_store (vs := encId (o.preds.getD k Nm.zero)) Tryd.sizeOf34 rfl rfl rfl (encId_length _) Upd.here (by simp) (encId_ones _)) ?_; rintro _ _ _ _ ⟨rfl, rfl, rfl⟩; refine ⟨trivial, ?_⟩
   rw [wr_all (by rw [encId_length]; exact Nat.le_refl _)]
   refine gr_nil (gk_then ?_)
   refine gc_seq (gc_seqr [(.mv, 0), (.mv, 1), (.nm, 2), (.mv, 3)] rfl ?_)
   refine gm rfl rfl rfl rfl ?_
   refine gr_rd rfl rfl rfl (rd_loadA Tryd.ta34 rfl cel sg lnk) ?_
   refine gr_nx rfl rfl rfl (nx_call Tryd.en23 rfl (rat_cc _ _ (hV.mono (Gh.le_refl _) (fun x hx => List.mem_cons_of_mem _ (List.mem_cons_of_mem _ hx))) _)) ?_; rintro v16 H' L' hle ⟨rfl, rfl, rfl⟩; refine ⟨trivial, ?_⟩
   refine gr_rd rfl rfl rfl (rd_lss rfl rfl) ?_
   refine gr_nil (gk_then ?_)
   refine gc_cond (u := !has s.ops (o.preds.getD k Nm.zero)) (by rw [← posOf_has]; rfl) (fun hc1 => ?_) (fun hc1 => ?_)
   ·skip
    refine gc_seq (gc_seqr [(.mv, 0)] rfl ?_)
    refine ga rfl rfl rfl rfl ?_
    refine gr_nil (gk_then ?_)
    refine gc_ret ?_
    refine gk_ret_inBlock ?_
    refine gk_ret_then ?_
    refine gk_ret_then ?_
    refine gk_ret_inBlock ?_
    refine gk_ret_then ?_
    refine gk_result (L' := L) (.inl rfl) _ (res1 rfl rfl) sbl gle ?_
    exact ⟨by rw [whole_miss (getD_at hlt) (by simpa using hc1)], rfl, rfl⟩
   ·skip
    refine gc_skip ?_
    refine gk_inBlock ?_
    refine gk_then ?_
    refine gc_seqr [(.mv, 0), (.mv, 1)] rfl ?_
    (first | refine gr_rd rfl rfl rfl (rd_add rfl rfl (IntWalk.i64_in _ (by omega))) ?_ | refine gr_rd rfl rfl rfl (rd_add rfl rfl rfl) ?_)
    refine gm rfl rfl rfl rfl ?_
    refine gr_nil ?_
    refine gk_drop (L' := (b3, .cells (encOp o (.slice A o.preds.length cv)).toArray 38 (0, 0)) :: L) sbl ?_
    refine gk_round (k + 1) (by omega) ⟨rfl, rfl, by omega, fun j hj2 => ?_⟩ sbs
    by_cases e : j = k
    · subst e; simpa using hc1
    · exact hj j (by omega)
  ·have hge : o.preds.length ≤ k := by simp at hc0; omega
   refine gc_exit ?_
   refine gk_exit_then ?_
   refine gk_exit_then ?_
   refine gk_here ?_
   refine gk_then ?_
   refine gc_seq (gc_seqr [(.mv, 0)] rfl ?_)
   refine ga rfl rfl rfl rfl ?_
   refine gr_nil (gk_then ?_)
   refine gc_ret ?_
   refine gk_result (L' := L) (.inl rfl) _ (res1 rfl rfl) sbl gle ?_
   exact ⟨by rw [whole_hit (fun j h => hj j (by omega))], rfl, rfl⟩
theorem rdepth_cc (H : Gh) (L : Chunks) {b : Nat} {s : DSet} {v0 v1 v2 v3 : Value} {ov wv : List (POp × Value)} (hV : RView H L b s v0 v1 v2 v3 ov wv) (o : POp) (pv : Value) (hp : Ids H L pv o.preds) (hw : ∀ n ∈ o.preds, has s.ops n = true) :
    CC Tryd.prog 56 #[pt b 0, ag (encOp o pv)] H L (fun v H' L' => v = i64 (depthOf s o.preds) ∧ H = H' ∧ L = L') := by
 obtain ⟨A, bv, of, cv, lv, rfl, hcv, hnv, hv0, hv1, hv2⟩ := hp
 obtain ⟨⟨A0, bo, oo, co, lo, he0, hco, hno, ho0, ho1, ho2⟩, hop⟩ := hV.ops
 refine cc_of Tryd.func56 rfl (Nat.le_of_ble_eq_true rfl) ?_
 simp only [Tryd.ntmps56]
 refine gc_seq (gc_seqr [(.nm, 0), (.mv, 1)] rfl ?_)
 refine gr_nx rfl rfl rfl (nx_box rfl rfl) ?_; rintro _ _ _ _ ⟨b3, rfl, rfl, rfl⟩; refine ⟨trivial, ?_⟩
 refine ga rfl rfl rfl rfl ?_
 refine gr_nil (gk_then ?_)
 refine gc_seq (gc_seqr [(.mv, 0)] rfl ?_)
 refine ga rfl rfl rfl rfl ?_
 refine gr_nil (gk_then ?_)
 refine gc_seq ?_
 refine gc_seq (gc_seqr [(.mv, 0), (.mv, 1), (.mv, 2), (.mv, 3)] rfl ?_)
 refine gr_rd rfl rfl rfl (rd_fieldAddr Tryd.fa38_3 rfl) ?_
 refine gr_rd rfl rfl rfl (rd_load1 Tryd.to29 rfl cel at1) ?_
 refine gr_rd rfl rfl rfl (rd_lenS Tryd.underlying29 rfl) ?_
 refine gm rfl rfl rfl rfl ?_
 refine gr_nil (gk_then ?_)
 refine gc_block ?_
 refine gc_loop (fun k : Nat => [(0, pt b 0), (5, i64 (deepest s (o.preds.take k))), (10, .slice A o.preds.length cv), (11, i64 o.preds.length), (12, i64 k)]) (fun k H1 L1 => H = H1 ∧ (b3, .cells (encOp o (.slice A o.preds.length cv)).toArray 38 (0, 0)) :: L = L1 ∧ k ≤ o.preds.length) (fun k => o.preds.length - k) (0) ?_ sbs ?_
 ·exact ⟨rfl, rfl, Nat.zero_le _⟩
 ·rintro k H1 L1 ⟨rfl, rfl, hk⟩
  refine gc_seq (gc_seqr [(.mv, 0)] rfl ?_)
  refine gr_rd rfl rfl rfl (rd_lss rfl rfl) ?_
  refine gr_nil (gk_then ?_)
  refine gc_seq ?_
  refine gc_cond rfl (fun hc0 => ?_) (fun hc0 => ?_)
  ·have hlt : k < o.preds.length := by simpa using hc0
   obtain ⟨hAe, hca, hsa⟩ := ids_at2 (i := (k : Int)) hv1 hv2 hlt rfl
   obtain ⟨q, oq, hp1, hp2, hp3⟩ := posOf_get (hw _ (List.mem_of_getElem? (getD_at hlt)))
   have hq : q < ov.length := by
     have h1 := congrArg List.length hV.opsE
     have h2 := (List.getElem?_eq_some_iff.1 hp2).1
     simp at h1; omega
   have hoq : (ov[q]).1 = oq := by
     have h1 := congrArg (fun l => l[q]?) hV.opsE
     simp only [List.getElem?_map, hp2, List.getElem?_eq_getElem hq] at h1
     simpa using h1
   obtain ⟨hA0, hc0'⟩ := ho1 (List.ne_nil_of_length_pos (by omega))
   have hs0 := ho2 q _ (List.getElem?_eq_getElem hq)
   refine gc_skip ?_
   refine gk_then ?_
   refine gc_seq ?_
   refine gc_block ?_
   refine gc_seq (gc_seqr [(.mv, 0), (.mv, 1), (.nm, 2), (.nm, 3)] rfl ?_)
   refine gr_rd rfl rfl rfl (rd_indexS Tryd.underlying29 Tryd.sizeOf34 rfl rfl hAe (by omega) (by omega)) ?_
   refine gr_rd rfl rfl rfl (rd_loadA Tryd.ta34 rfl (mono_cons hca) hsa (encId_length _)) ?_
   refine gr_nx rfl rfl rfl (nx_alloc Tryd.zeroValue34 rfl) ?_; rintro _ _ _ _ ⟨b7, rfl, rfl, rfl⟩; refine ⟨trivial, ?_⟩
   refine gr_nx0 rfl rfl (nx_store (vs := encId (o.preds.getD k Nm.zero)) Tryd.sizeOf34 rfl rfl rfl (encId_length _) Upd.here (by simp) (encId_ones _)) ?_; rintro _ _ _ _ ⟨rfl, rfl, rfl⟩; refine ⟨trivial, ?_⟩
   rw [wr_all (by rw [encId_length]; exact Nat.le_refl _)]
   refine gr_nil (gk_then ?_)
   refine gc_seq ?_
   refine gc_draw Tryd.mixed [(.mv, 0), (.mv, 1), (.mv, 2), (.mv, 3), (.mv, 4), (.mv, 5), (.nm, 6), (.mv, 7), (.mv, 8), (.mv, 9), (.mv, 10)] (by decide +kernel) _ (List.Sublist.refl _) ?_
   refine gm rfl rfl rfl rfl ?_
   refine gr_rd rfl rfl rfl (rd_nilCheck rfl) ?_
   refine gr_rd rfl rfl rfl (rd_fieldAddr Tryd.fa48_0 rfl) ?_
   refine gr_rd rfl rfl rfl (rd_load1 Tryd.to25 rfl (mono_cons (mono_cons hV.cells)) rfl) ?_
   refine gm rfl rfl rfl rfl ?_
   refine gr_rd rfl rfl rfl (rd_loadA Tryd.ta34 rfl cel sg lnk) ?_
   refine gr_nx rfl rfl rfl (nx_call Tryd.en23 rfl (rat_cc _ _ (hV.mono (Gh.le_refl _) (fun x hx => List.mem_cons_of_mem _ (List.mem_cons_of_mem _ hx))) _)) ?_; rintro v22 H' L' hle ⟨rfl, rfl, rfl⟩; refine ⟨kp, ?_⟩
   rw [hp1, he0]
   refine gr_rd rfl rfl rfl (rd_indexS Tryd.underlying25 Tryd.sizeOf38 rfl rfl hA0 (by omega) (by omega)) ?_
   refine gr_rd rfl rfl rfl (rd_fieldAddr Tryd.fa38_2 rfl) ?_
   refine gr_rd rfl rfl rfl (rd_load1 Tryd.to3 rfl (mono_cons (mono_cons hc0')) (v := i64 oq.depth) (by rw [← hoq]; have := hs0 36 _ (encOp_36 _ _); rw [Int.toNat_natCast]; exact this)) ?_
   refine ga rfl rfl rfl rfl ?_
   refine gr_nil (gk_then ?_)
   refine gc_seq (gc_seqr [(.mv, 0), (.mv, 1), (.mv, 2)] rfl ?_)
   refine gm rfl rfl rfl rfl ?_
   refine gm rfl rfl rfl rfl ?_
   refine gr_rd rfl rfl rfl (rd_gtr rfl rfl) ?_
   refine gr_nil (gk_then ?_)
   refine gc_cond rfl (fun hc1 => ?_) (fun hc1 => ?_)
   ·skip
    refine gc_seqr [(.mv, 0), (.mv, 1)] rfl ?_
    refine gm rfl rfl rfl rfl ?_
    refine ga rfl rfl rfl rfl ?_
    refine gr_nil ?_
    refine gk_inBlock ?_
    refine gk_then ?_
    refine gc_seqr [(.mv, 0), (.mv, 1)] rfl ?_
    (first | refine gr_rd rfl rfl rfl (rd_add rfl rfl (IntWalk.i64_in _ (by omega))) ?_ | refine gr_rd rfl rfl rfl (rd_add rfl rfl rfl) ?_)
    refine gm rfl rfl rfl rfl ?_
    refine gr_nil ?_
    refine gk_drop (L' := (b3, .cells (encOp o (.slice A o.preds.length cv)).toArray 38 (0, 0)) :: L) sbl ?_
    refine gk_round (k + 1) (by omega) ⟨rfl, rfl, by omega⟩ ?_
    refine Subs.cons rfl (Subs.cons ?_ sbs)
    simp only [find, cond]
    rw [deepest_step (getD_at hlt) hp3]
    first
      | rw [Int.max_eq_right (by have := of_decide_eq_true hc1; omega)] <;> rfl
      | rw [Int.max_eq_left (by have := of_decide_eq_false hc1; omega)] <;> rfl
   ·skip
    refine gc_skip ?_
    refine gk_inBlock ?_
    refine gk_then ?_
    refine gc_seqr [(.mv, 0), (.mv, 1)] rfl ?_
    (first | refine gr_rd rfl rfl rfl (rd_add rfl rfl (IntWalk.i64_in _ (by omega))) ?_ | refine gr_rd rfl rfl rfl (rd_add rfl rfl rfl) ?_)
    refine gm rfl rfl rfl rfl ?_
    refine gr_nil ?_
    refine gk_drop (L' := (b3, .cells (encOp o (.slice A o.preds.length cv)).toArray 38 (0, 0)) :: L) sbl ?_
    refine gk_round (k + 1) (by omega) ⟨rfl, rfl, by omega⟩ ?_
    refine Subs.cons rfl (Subs.cons ?_ sbs)
    simp only [find, cond]
    rw [deepest_step (getD_at hlt) hp3]
    first
      | rw [Int.max_eq_right (by have := of_decide_eq_true hc1; omega)] <;> rfl
      | rw [Int.max_eq_left (by have := of_decide_eq_false hc1; omega)] <;> rfl
  ·have hge : k = o.preds.length := by simp at hc0; omega
   subst hge
   rw [List.take_length]
   refine gc_exit ?_
   refine gk_exit_then ?_
   refine gk_exit_then ?_
   refine gk_here ?_
   refine gk_then ?_
   refine gc_seq (gc_seqr [(.mv, 0), (.mv, 1), (.mv, 2)] rfl ?_)
   refine gm rfl rfl rfl rfl ?_
   refine gr_rd rfl rfl rfl (rd_add rfl rfl (IntKind.wrap_i64 _)) ?_
   refine ga rfl rfl rfl rfl ?_
   refine gr_nil (gk_then ?_)
   refine gc_ret ?_
   refine gk_result (L' := L) (.inl rfl) _ (res1 rfl rfl) sbl gle ?_
   exact ⟨rfl, rfl, rfl⟩
end Go.Proofs.YtfhldfjknagidaaDoor

/-
  Walks: names in rising order; heads.
-/
set_option linter.unusedSimpArgs false
set_option linter.unusedVariables false
set_option linter.unnecessarySimpa false
set_option linter.all false
namespace Go.Proofs.YtfhldfjknagidaaDoor
open Go.VK Go.Tr
set_option maxRecDepth 20000
attribute [local irreducible] Go.Tr.sha
theorem takeWhile_at {α : Type} (p : α → Bool) : ∀ (xs : List α) (j : Nat), j ≤ xs.length → (∀ (i : Nat) y, i < j → xs[i]? = some y → p y = true) → (∀ y, xs[j]? = some y → p y = false) → xs.takeWhile p = xs.take j ∧ xs.dropWhile p = xs.drop j
  | [], 0, _, _, _ => by simp
  | [], j + 1, h, _, _ => by simp at h
  | x :: r, 0, _, _, h2 => by
    have := h2 x rfl
    simp [this]
  | x :: r, j + 1, h, h1, h2 => by
    have h0 := h1 0 x (by omega) rfl
    have ih := takeWhile_at p r j (by simpa using h) (fun i y hi hy => h1 (i + 1) y (by omega) (by simpa using hy)) (fun y hy => h2 y (by simpa using hy))
    simp [h0, ih.1, ih.2]
theorem ins_at {xs : List Nm} {x : Nm} {j : Nat} (hj : j ≤ xs.length) (h1 : ∀ i, i < j → cmp (xs.getD i Nm.zero) x < 0) (h2 : ∀ y, xs[j]? = some y → ¬ cmp y x < 0) : ins xs x = xs.take j ++ x :: xs.drop j := by
  have h := takeWhile_at (fun y => ltN y x) xs j hj (fun i y hi hy => by
    have := h1 i hi
    rw [List.getD_eq_getElem?_getD, hy] at this
    simpa [ltN] using this) (fun y hy => by simpa [ltN] using h2 y hy)
  rw [ins, h.1, h.2]
theorem ins_length (xs : List Nm) (x : Nm) : (ins xs x).length = xs.length + 1 := by
  have := congrArg List.length (List.takeWhile_append_dropWhile (p := fun y => ltN y x) (l := xs))
  rw [List.length_append] at this
  rw [ins, List.length_append, List.length_cons]; omega
theorem fold_length (l : List Nm) : ∀ (xs : List Nm), (l.foldl ins xs).length = xs.length + l.length := by
  induction l with
  | nil => intro xs; rfl
  | cons x r ih => intro xs; rw [List.foldl_cons, ih, ins_length, List.length_cons]; omega
theorem fold_take (l : List Nm) (k : Nat) (x : Nm) (h : l[k]? = some x) : (l.take (k + 1)).foldl ins [] = ins ((l.take k).foldl ins []) x := by
  rw [List.take_add_one, h]; simp [List.foldl_append]

set_option maxHeartbeats 1000000 in
theorem rising_cc (H : Gh) (L : Chunks) (v : Value) (l : List Nm) (hl : Ids H L v l) (hb : l.length < 16777216) :
    CC Tryd.prog 41 #[v] H L (fun u H' L' => ∃ C, Ow 34 32 C u (rising l).length ((rising l).flatMap encId) ∧ H = H' ∧ C ++ L = L') := by
 obtain ⟨A, bv, of, cv, lv, rfl, hcv, hnv, hv0, hv1, hv2⟩ := hl
 refine cc_of Tryd.func41 rfl (Nat.le_of_ble_eq_true rfl) ?_
 simp only [Tryd.ntmps41]
 refine gc_seq (gc_seqr [(.mv, 0)] rfl ?_)
 refine ga rfl rfl rfl rfl ?_
 refine gr_nil (gk_then ?_)
 refine gc_seq (gc_seqr [(.mv, 0)] rfl ?_)
 refine ga rfl rfl rfl rfl ?_
 refine gr_nil (gk_then ?_)
 refine gc_seq ?_
 refine gc_seq (gc_seqr [(.mv, 0), (.mv, 1), (.mv, 2)] rfl ?_)
 refine gm rfl rfl rfl rfl ?_
 refine gr_rd rfl rfl rfl (rd_lenS Tryd.underlying29 rfl) ?_
 refine gm rfl rfl rfl rfl ?_
 refine gr_nil (gk_then ?_)
 refine gc_block ?_
 refine gc_loop (fun s : Nat × List Nm × Value × Chunks => [(3, s.2.2.1), (8, .slice A l.length cv), (9, i64 l.length), (10, i64 s.1)]) (fun s H1 L1 => H = H1 ∧ L1 = s.2.2.2 ++ L ∧ s.1 ≤ l.length ∧ (l.take s.1).foldl ins [] = s.2.1 ∧ Ow 34 32 s.2.2.2 s.2.2.1 s.2.1.length (s.2.1.flatMap encId)) (fun s => l.length - s.1) ((0, [], .slice none 0 0, [])) ?_ sbs ?_
 ·exact ⟨rfl, rfl, Nat.zero_le _, rfl, Ow.nil⟩
 ·rintro ⟨k, xs, vo, C⟩ H1 L1 ⟨rfl, rfl, hk, hxs, hO⟩
  simp only at hk hxs hO
  show GC _ _ _ _ [(3, vo), (8, .slice A l.length cv), (9, i64 l.length), (10, i64 k)] H (C ++ L)
  refine gc_seq (gc_seqr [(.mv, 0)] rfl ?_)
  refine gr_rd rfl rfl rfl (rd_lss rfl rfl) ?_
  refine gr_nil (gk_then ?_)
  refine gc_seq ?_
  refine gc_cond rfl (fun hc0 => ?_) (fun hc0 => ?_)
  ·have hlt : k < l.length := by simpa using hc0
   obtain ⟨hAe, hca, hsa⟩ := ids_at2 (i := (k : Int)) hv1 hv2 hlt rfl
   have hca1 : Cells H (C ++ L) bv lv := hca.mono (Gh.le_refl _) (fun x hx => List.mem_append_right _ hx)
   have hxl : xs.length = k := by rw [← hxs, fold_length, List.length_take]; simp; omega
   obtain ⟨Ao, co, rfl, hco⟩ := hO.slice
   have hS : Ids H (C ++ L) (.slice Ao xs.length co) xs := Ow.slT encId_length hO rfl (by omega) (fun x hx => List.mem_append_left _ hx)
   obtain ⟨Ao', bo, oo, co', lo, he, hco', hno, ho0, ho1, ho2⟩ := hS
   cases he
   refine gc_skip ?_
   refine gk_then ?_
   refine gc_seq ?_
   refine gc_block ?_
   refine gc_seq (gc_seqr [(.mv, 0), (.mv, 1), (.nm, 2), (.nm, 3)] rfl ?_)
   refine gr_rd rfl rfl rfl (rd_indexS Tryd.underlying29 Tryd.sizeOf34 rfl rfl hAe (by omega) (by omega)) ?_
   refine gr_rd rfl rfl rfl (rd_loadA Tryd.ta34 rfl hca1 hsa (encId_length _)) ?_
   refine gr_nx rfl rfl rfl (nx_alloc Tryd.zeroValue34 rfl) ?_; rintro _ _ _ _ ⟨b5, rfl, rfl, rfl⟩; refine ⟨trivial, ?_⟩
   refine gr_nx0 rfl rfl (nx_store (vs := encId (l.getD k Nm.zero)) Tryd.sizeOf34 rfl rfl rfl (encId_length _) Upd.here (by simp) (encId_ones _)) ?_; rintro _ _ _ _ ⟨rfl, rfl, rfl⟩; refine ⟨trivial, ?_⟩
   rw [wr_all (by rw [encId_length]; exact Nat.le_refl _)]
   refine gr_nil (gk_then ?_)
   refine gc_seq (gc_seqr [(.mv, 0)] rfl ?_)
   refine ga rfl rfl rfl rfl ?_
   refine gr_nil (gk_then ?_)
   refine gc_seq ?_
   refine gc_block ?_
   refine gc_loop (fun j : Nat => [(3, .slice Ao xs.length co), (5, pt b5 0), (6, i64 j), (8, .slice A l.length cv), (9, i64 l.length), (10, i64 k)]) (fun j H1 L1 => H = H1 ∧ (b5, .cells (encId (l.getD k Nm.zero)).toArray 34 (0, 0)) :: (C ++ L) = L1 ∧ j ≤ xs.length ∧ ∀ i, i < j → cmp (xs.getD i Nm.zero) (l.getD k Nm.zero) < 0) (fun j => xs.length - j) (0) ?_ sbs ?_
   ·exact ⟨rfl, rfl, Nat.zero_le _, fun i hi => absurd hi (Nat.not_lt_zero _)⟩
   ·rintro j H1 L1 ⟨rfl, rfl, hj, hlts⟩
    refine gc_seq ?_
    refine gc_seq ?_
    refine gc_draw Tryd.mixed [(.mv, 0), (.mv, 1), (.mv, 2), (.mv, 3), (.mv, 4), (.mv, 5), (.mv, 6), (.mv, 7), (.mv, 8), (.mv, 9), (.fin, 10), (.fin, 11), (.fin, 12)] (by decide +kernel) _ (List.Sublist.refl _) ?_
    refine gm rfl rfl rfl rfl ?_
    refine gm rfl rfl rfl rfl ?_
    refine gr_rd rfl rfl rfl (rd_lenS Tryd.underlying29 rfl) ?_
    refine gr_rd rfl rfl rfl (rd_lss rfl rfl) ?_
    refine gm rfl rfl rfl rfl ?_
    refine gr_split rfl (fun hg4 => ?_) (fun hg4 => ?_)
    ·have hjl : j < xs.length := by simpa using hg4
     obtain ⟨hAo, hco2, hso⟩ := ids_at2 (i := (j : Int)) ho1 ho2 hjl rfl
     refine gm rfl rfl rfl rfl ?_
     refine gm rfl rfl rfl rfl ?_
     refine gr_rd rfl rfl rfl (rd_indexS Tryd.underlying29 Tryd.sizeOf34 rfl rfl hAo (by omega) (by omega)) ?_
     refine gr_rd rfl rfl rfl (rd_loadA Tryd.ta34 rfl (mono_cons hco2) hso (encId_length _)) ?_
     refine gr_rd rfl rfl rfl (rd_loadA Tryd.ta34 rfl cel sg lnk) ?_
     refine gr_fin rfl rfl rfl (nx_call Tryd.en57 rfl (rcmp_cc _ _ _ _)) ?_; rintro v24 H' L' hle ⟨rfl, rfl, rfl⟩
     (refine gr_fin rfl rfl rfl (Rd.nx (rd_lss rfl rfl)) ?_; rintro _ _ _ _ ⟨rfl, rfl, rfl⟩)
     (first | (refine gr_fin rfl rfl rfl (Rd.nx (rd_pick_t rfl rfl)) ?_; rintro _ _ _ _ ⟨rfl, rfl, rfl⟩) | (refine gr_fin rfl rfl rfl (Rd.nx (rd_pick_f rfl rfl)) ?_; rintro _ _ _ _ ⟨rfl, rfl, rfl⟩))
     refine gr_nil (gk_then ?_)
     refine gc_cond rfl (fun hc1 => ?_) (fun hc1 => ?_)
     ·skip
      refine gc_skip ?_
      refine gk_then ?_
      refine gc_block ?_
      refine gc_seqr [(.mv, 0), (.mv, 1), (.mv, 2)] rfl ?_
      refine gm rfl rfl rfl rfl ?_
      (first | refine gr_rd rfl rfl rfl (rd_add rfl rfl (IntWalk.i64_in _ (by omega))) ?_ | refine gr_rd rfl rfl rfl (rd_add rfl rfl rfl) ?_)
      refine ga rfl rfl rfl rfl ?_
      refine gr_nil ?_
      refine gk_inBlock ?_
      refine gk_round (j + 1) (by omega) ⟨rfl, rfl, by omega, fun i hi => ?_⟩ sbs
      by_cases e : i = j
      · subst e; simpa using hc1
      · exact hlts i (by omega)
     ·first | have hins := ins_at (x := l.getD k Nm.zero) hj hlts (fun y hy => by rw [getD_at hjl] at hy; cases hy; simpa using hc1) | skip
      refine gc_exit ?_
      refine gk_exit_then ?_
      refine gk_exit_then ?_
      refine gk_here ?_
      refine gk_then ?_
      refine gc_seq (gc_seqr [(.nm, 0), (.mv, 1), (.mv, 2), (.mv, 3), (.nm, 4), (.mv, 5)] rfl ?_)
      refine gr_nx rfl rfl rfl (nx_buildSlice (vs := []) Tryd.underlying29 Tryd.sizeOf34 Tryd.zeroValue34 rfl rfl rfl rfl (fun v hv => by cases hv) rfl rfl rfl) ?_; rintro _ _ _ _ ⟨b29, rfl, rfl, rfl⟩; refine ⟨trivial, ?_⟩
      refine gm rfl rfl rfl rfl ?_
      refine gm rfl rfl rfl rfl ?_
      refine gr_rd rfl rfl rfl (rd_sliceLoA Tryd.underlying29 Tryd.sizeOf34 rfl rfl (l := j) rfl (by omega) (by omega)) ?_
      refine gr_nx rfl rfl rfl (nx_append (m := xs.length - j) Tryd.app29_29 rfl rfl (Ow.new (b := b29) (e := 34) (k := 32) (n := 0) (cs := []) rfl) pik (SlT.srcN encId_length encId_ones (SlT.lo (SlT.mono ⟨Ao, bo, oo, co, lo, rfl, hco, hno, ho0, ho1, ho2⟩ (Gh.le_refl _) (fun x hx => List.mem_cons_of_mem _ (List.mem_cons_of_mem _ hx))) (l := j) hj) (by simp)) (by omega) (by omega)) ?_; rintro v33 H' L' hle ⟨C1, hO1, _, rfl, rfl⟩; refine ⟨trivial, ?_⟩
      refine ga rfl rfl rfl rfl ?_
      refine gr_nil (gk_then ?_)
      refine gc_draw Tryd.mixed [(.mv, 0), (.mv, 1), (.mv, 2), (.mv, 3), (.mv, 4), (.mv, 7), (.nm, 5), (.nm, 6), (.fin, 8), (.fin, 9)] (by decide +kernel) _ (List.Sublist.refl _) ?_
      refine gm rfl rfl rfl rfl ?_
      refine gm rfl rfl rfl rfl ?_
      refine gm rfl rfl rfl rfl ?_
      refine gr_rd rfl rfl rfl (rd_slice3 Tryd.underlying29 Tryd.sizeOf34 rfl rfl rfl rfl rfl (by omega)) ?_
      refine gr_rd rfl rfl rfl (rd_loadA Tryd.ta34 rfl (Cells.own (List.mem_append_right _ List.mem_cons_self)) (Seg.all _) (encId_length _)) ?_
      refine gm rfl rfl rfl rfl ?_
      refine gr_nx rfl rfl rfl (nx_sliceA1 Tryd.underlying29 Tryd.sizeOf34 Tryd.zeroValue34 rfl rfl rfl lnk rfl) ?_; rintro _ _ _ _ ⟨b39, rfl, rfl, rfl⟩; refine ⟨kp, ?_⟩
      refine gr_nx rfl rfl rfl (nx_append_full (n := j) (m := 1) Tryd.app29_29 rfl rfl (SlT.srcN encId_length encId_ones (SlT.hi (SlT.mono ⟨Ao, bo, oo, co, lo, rfl, hco, hno, ho0, ho1, ho2⟩ (Gh.le_refl _) (fun x hx => List.mem_cons_of_mem _ (List.mem_append_right _ (List.mem_cons_of_mem _ hx)))) (h' := j) hj (Nat.le_refl _) (fun ha => by have := (ho0 ha).1; rw [this] at hj; simpa using hj)) (by simp; omega)) (src_slice (b := b39) (o := 0) (l := encId (l.getD k Nm.zero)) (m := 1) (by simp) (encId_ones _) (fun h => by cases h) (fun _ _ => ⟨rfl, Cells.own List.mem_cons_self, Seg.all _⟩)) (by omega) (by omega) (by omega)) ?_; rintro v40 H' L' hle ⟨C2, hO2, rfl, rfl⟩; refine ⟨kp, ?_⟩
      refine gr_fin rfl rfl rfl (nx_append (n := j + 1) (m := xs.length - j) Tryd.app29_29 rfl rfl hO2 pik (SlT.srcN encId_length encId_ones (Ow.slT (xs := xs.drop j) encId_length (by simpa using hO1) (by simp) (by omega) (fun x hx => List.mem_append_right _ (List.mem_cons_of_mem _ (List.mem_append_left _ hx)))) (by simp)) (by omega) (by omega)) ?_; rintro v42 H' L' hle ⟨C3, hO3, _, rfl, rfl⟩
      refine gr_fin rfl rfl rfl (Rd.nx (rd_assign rfl)) ?_; rintro _ _ _ _ ⟨rfl, rfl, rfl⟩
      refine gr_nil ?_
      refine gk_inBlock ?_
      refine gk_then ?_
      refine gc_seqr [(.mv, 0), (.mv, 1)] rfl ?_
      (first | refine gr_rd rfl rfl rfl (rd_add rfl rfl (IntWalk.i64_in _ (by omega))) ?_ | refine gr_rd rfl rfl rfl (rd_add rfl rfl rfl) ?_)
      refine gm rfl rfl rfl rfl ?_
      refine gr_nil ?_
      have hins2 : ins xs (l.getD k Nm.zero) = xs.take j ++ l.getD k Nm.zero :: xs.drop j := hins
      refine gk_drop (L' := C3 ++ L) sbl ?_
      refine gk_round (k + 1, ins xs (l.getD k Nm.zero), _, C3) ?_ ?_ sbs
      · show l.length - (k + 1) < l.length - k
        omega
      · refine ⟨rfl, rfl, by simp only; omega, (fold_take l k _ (getD_at hlt)).trans (by rw [hxs]), ?_⟩
        simp only
        rw [ins_length, hins2]
        have e : j + 1 + (xs.length - j) = xs.length + 1 := by omega
        rw [e] at hO3
        simpa using hO3
    ·have hjl : j = xs.length := by simp at hg4; omega
     have hins := ins_at (x := l.getD k Nm.zero) hj hlts (fun y hy => by rw [hjl] at hy; simp at hy)
     refine gr_no rfl rfl rfl ?_
     refine gr_no rfl rfl rfl ?_
     refine gr_no rfl rfl rfl ?_
     refine gr_no rfl rfl rfl ?_
     refine gr_no rfl rfl rfl ?_
     refine gr_no rfl rfl rfl ?_
     refine gr_no rfl rfl rfl ?_
     (first | (refine gr_fin rfl rfl rfl (Rd.nx (rd_pick_t rfl rfl)) ?_; rintro _ _ _ _ ⟨rfl, rfl, rfl⟩) | (refine gr_fin rfl rfl rfl (Rd.nx (rd_pick_f rfl rfl)) ?_; rintro _ _ _ _ ⟨rfl, rfl, rfl⟩))
     refine gr_nil (gk_then ?_)
     refine gc_no rfl ?_
     first | have hins := ins_at (x := l.getD k Nm.zero) hj hlts (fun y hy => by rw [getD_at hjl] at hy; cases hy; simpa using hc1) | skip
     refine gc_exit ?_
     refine gk_exit_then ?_
     refine gk_exit_then ?_
     refine gk_here ?_
     refine gk_then ?_
     refine gc_seq (gc_seqr [(.nm, 0), (.mv, 1), (.mv, 2), (.mv, 3), (.nm, 4), (.mv, 5)] rfl ?_)
     refine gr_nx rfl rfl rfl (nx_buildSlice (vs := []) Tryd.underlying29 Tryd.sizeOf34 Tryd.zeroValue34 rfl rfl rfl rfl (fun v hv => by cases hv) rfl rfl rfl) ?_; rintro _ _ _ _ ⟨b29, rfl, rfl, rfl⟩; refine ⟨trivial, ?_⟩
     refine gm rfl rfl rfl rfl ?_
     refine gm rfl rfl rfl rfl ?_
     refine gr_rd rfl rfl rfl (rd_sliceLoA Tryd.underlying29 Tryd.sizeOf34 rfl rfl (l := j) rfl (by omega) (by omega)) ?_
     refine gr_nx rfl rfl rfl (nx_append (m := xs.length - j) Tryd.app29_29 rfl rfl (Ow.new (b := b29) (e := 34) (k := 32) (n := 0) (cs := []) rfl) pik (SlT.srcN encId_length encId_ones (SlT.lo (SlT.mono ⟨Ao, bo, oo, co, lo, rfl, hco, hno, ho0, ho1, ho2⟩ (Gh.le_refl _) (fun x hx => List.mem_cons_of_mem _ (List.mem_cons_of_mem _ hx))) (l := j) hj) (by simp)) (by omega) (by omega)) ?_; rintro v33 H' L' hle ⟨C1, hO1, _, rfl, rfl⟩; refine ⟨trivial, ?_⟩
     refine ga rfl rfl rfl rfl ?_
     refine gr_nil (gk_then ?_)
     refine gc_draw Tryd.mixed [(.mv, 0), (.mv, 1), (.mv, 2), (.mv, 3), (.mv, 4), (.mv, 7), (.nm, 5), (.nm, 6), (.fin, 8), (.fin, 9)] (by decide +kernel) _ (List.Sublist.refl _) ?_
     refine gm rfl rfl rfl rfl ?_
     refine gm rfl rfl rfl rfl ?_
     refine gm rfl rfl rfl rfl ?_
     refine gr_rd rfl rfl rfl (rd_slice3 Tryd.underlying29 Tryd.sizeOf34 rfl rfl rfl rfl rfl (by omega)) ?_
     refine gr_rd rfl rfl rfl (rd_loadA Tryd.ta34 rfl (Cells.own (List.mem_append_right _ List.mem_cons_self)) (Seg.all _) (encId_length _)) ?_
     refine gm rfl rfl rfl rfl ?_
     refine gr_nx rfl rfl rfl (nx_sliceA1 Tryd.underlying29 Tryd.sizeOf34 Tryd.zeroValue34 rfl rfl rfl lnk rfl) ?_; rintro _ _ _ _ ⟨b39, rfl, rfl, rfl⟩; refine ⟨kp, ?_⟩
     refine gr_nx rfl rfl rfl (nx_append_full (n := j) (m := 1) Tryd.app29_29 rfl rfl (SlT.srcN encId_length encId_ones (SlT.hi (SlT.mono ⟨Ao, bo, oo, co, lo, rfl, hco, hno, ho0, ho1, ho2⟩ (Gh.le_refl _) (fun x hx => List.mem_cons_of_mem _ (List.mem_append_right _ (List.mem_cons_of_mem _ hx)))) (h' := j) hj (Nat.le_refl _) (fun ha => by have := (ho0 ha).1; rw [this] at hj; simpa using hj)) (by simp; omega)) (src_slice (b := b39) (o := 0) (l := encId (l.getD k Nm.zero)) (m := 1) (by simp) (encId_ones _) (fun h => by cases h) (fun _ _ => ⟨rfl, Cells.own List.mem_cons_self, Seg.all _⟩)) (by omega) (by omega) (by omega)) ?_; rintro v40 H' L' hle ⟨C2, hO2, rfl, rfl⟩; refine ⟨kp, ?_⟩
     refine gr_fin rfl rfl rfl (nx_append (n := j + 1) (m := xs.length - j) Tryd.app29_29 rfl rfl hO2 pik (SlT.srcN encId_length encId_ones (Ow.slT (xs := xs.drop j) encId_length (by simpa using hO1) (by simp) (by omega) (fun x hx => List.mem_append_right _ (List.mem_cons_of_mem _ (List.mem_append_left _ hx)))) (by simp)) (by omega) (by omega)) ?_; rintro v42 H' L' hle ⟨C3, hO3, _, rfl, rfl⟩
     refine gr_fin rfl rfl rfl (Rd.nx (rd_assign rfl)) ?_; rintro _ _ _ _ ⟨rfl, rfl, rfl⟩
     refine gr_nil ?_
     refine gk_inBlock ?_
     refine gk_then ?_
     refine gc_seqr [(.mv, 0), (.mv, 1)] rfl ?_
     (first | refine gr_rd rfl rfl rfl (rd_add rfl rfl (IntWalk.i64_in _ (by omega))) ?_ | refine gr_rd rfl rfl rfl (rd_add rfl rfl rfl) ?_)
     refine gm rfl rfl rfl rfl ?_
     refine gr_nil ?_
     have hins2 : ins xs (l.getD k Nm.zero) = xs.take j ++ l.getD k Nm.zero :: xs.drop j := hins
     refine gk_drop (L' := C3 ++ L) sbl ?_
     refine gk_round (k + 1, ins xs (l.getD k Nm.zero), _, C3) ?_ ?_ sbs
     · show l.length - (k + 1) < l.length - k
       omega
     · refine ⟨rfl, rfl, by simp only; omega, (fold_take l k _ (getD_at hlt)).trans (by rw [hxs]), ?_⟩
       simp only
       rw [ins_length, hins2]
       have e : j + 1 + (xs.length - j) = xs.length + 1 := by omega
       rw [e] at hO3
       simpa using hO3
  ·have hge : k = l.length := by simp at hc0; omega
   subst hge
   rw [List.take_length] at hxs
   have hr : rising l = xs := hxs
   refine gc_exit ?_
   refine gk_exit_then ?_
   refine gk_exit_then ?_
   refine gk_here ?_
   refine gk_then ?_
   refine gc_seq (gc_seqr [(.mv, 0), (.mv, 1)] rfl ?_)
   refine gm rfl rfl rfl rfl ?_
   refine ga rfl rfl rfl rfl ?_
   refine gr_nil (gk_then ?_)
   refine gc_ret ?_
   refine gk_result (L' := C ++ L) (.inl rfl) _ (res1 rfl rfl) sbl gle ?_
   exact ⟨C, by rw [hr]; exact hO, rfl, rfl⟩
end Go.Proofs.YtfhldfjknagidaaDoor

/-
  Walks: the reference's names, waits and heads; same operations.
-/
set_option linter.unusedSimpArgs false
set_option linter.unusedVariables false
set_option linter.unnecessarySimpa false
set_option linter.all false
namespace Go.Proofs.YtfhldfjknagidaaDoor
open Go.VK Go.Tr
set_option maxRecDepth 20000
attribute [local irreducible] Go.Tr.sha
/-- What stands behind n, of these operations. -/
def anyB (l : List POp) (n : Nm) : Bool := l.any fun q => q.preds.any fun p => p == n
theorem behind_any {s : DSet} {n : Nm} {l : List (POp × Value)} (h : l.map (·.1) = s.ops.map (·.2)) : behind s n = anyB (l.map (·.1)) n := by
  rw [h, anyB, List.any_map]; rfl
theorem anyB_take {l : List POp} {k : Nat} {o : POp} (n : Nm) (h : l[k]? = some o) : anyB (l.take (k + 1)) n = (anyB (l.take k) n || o.preds.any fun p => p == n) := by
  rw [List.take_add_one, h]; simp [anyB]
theorem any_take {l : List Nm} {k : Nat} (n : Nm) (h : k < l.length) : ((l.take (k + 1)).any fun p => p == n) = (((l.take k).any fun p => p == n) || (l.getD k Nm.zero == n)) := by
  rw [List.take_add_one, getD_at h]; simp
theorem filter_take {l : List Nm} {k : Nat} (p : Nm → Bool) (h : k < l.length) : (l.take (k + 1)).filter p = (l.take k).filter p ++ (if p (l.getD k Nm.zero) then [l.getD k Nm.zero] else []) := by
  rw [List.take_add_one, getD_at h]; simp [List.filter_append, List.filter_cons]

theorem rnames_cc (H : Gh) (L : Chunks) {b : Nat} {s : DSet} {v0 v1 v2 v3 : Value} {ov wv : List (POp × Value)} (hV : RView H L b s v0 v1 v2 v3 ov wv) (hb : s.ops.length < 16777216) :
    CC Tryd.prog 58 #[pt b 0] H L (fun u H' L' => ∃ C, Ow 34 32 C u (names s).length ((names s).flatMap encId) ∧ H = H' ∧ C ++ L = L') := by
 refine cc_of Tryd.func58 rfl (Nat.le_of_ble_eq_true rfl) ?_
 simp only [Tryd.ntmps58]
 refine gc_seq (gc_seqr [(.mv, 0)] rfl ?_)
 refine ga rfl rfl rfl rfl ?_
 refine gr_nil (gk_then ?_)
 refine gc_seq (gc_seqr [(.mv, 0), (.mv, 1), (.mv, 2), (.mv, 3), (.nm, 4), (.mv, 5)] rfl ?_)
 refine gm rfl rfl rfl rfl ?_
 refine gr_rd rfl rfl rfl (rd_nilCheck rfl) ?_
 refine gr_rd rfl rfl rfl (rd_fieldAddr Tryd.fa48_2 rfl) ?_
 refine gr_rd rfl rfl rfl (rd_load1 Tryd.to29 rfl hV.cells rfl) ?_
 refine gr_nx rfl rfl rfl (nx_call Tryd.en41 rfl (rising_cc _ _ _ _ hV.names (by simpa using hb))) ?_; rintro v7 H' L' hle ⟨C, hO, rfl, rfl⟩; refine ⟨trivial, ?_⟩
 refine ga rfl rfl rfl rfl ?_
 refine gr_nil (gk_then ?_)
 refine gc_ret ?_
 refine gk_result (L' := C ++ L) (.inl rfl) _ (res1 rfl rfl) sbl gle ?_
 exact ⟨C, hO, rfl, rfl⟩
theorem rwaits_cc (H : Gh) (L : Chunks) {b : Nat} {s : DSet} {v0 v1 v2 v3 : Value} {ov wv : List (POp × Value)} (hV : RView H L b s v0 v1 v2 v3 ov wv) (hb : s.wait.length < 16777216) :
    CC Tryd.prog 24 #[pt b 0] H L (fun u H' L' => ∃ C, Ow 34 32 C u (waits s).length ((waits s).flatMap encId) ∧ H = H' ∧ C ++ L = L') := by
 refine cc_of Tryd.func24 rfl (Nat.le_of_ble_eq_true rfl) ?_
 simp only [Tryd.ntmps24]
 refine gc_seq (gc_seqr [(.mv, 0)] rfl ?_)
 refine ga rfl rfl rfl rfl ?_
 refine gr_nil (gk_then ?_)
 refine gc_seq (gc_seqr [(.mv, 0), (.mv, 1), (.mv, 2), (.mv, 3), (.nm, 4), (.mv, 5)] rfl ?_)
 refine gm rfl rfl rfl rfl ?_
 refine gr_rd rfl rfl rfl (rd_nilCheck rfl) ?_
 refine gr_rd rfl rfl rfl (rd_fieldAddr Tryd.fa48_3 rfl) ?_
 refine gr_rd rfl rfl rfl (rd_load1 Tryd.to29 rfl hV.cells rfl) ?_
 refine gr_nx rfl rfl rfl (nx_call Tryd.en41 rfl (rising_cc _ _ _ _ hV.waits (by simpa using hb))) ?_; rintro v7 H' L' hle ⟨C, hO, rfl, rfl⟩; refine ⟨trivial, ?_⟩
 refine ga rfl rfl rfl rfl ?_
 refine gr_nil (gk_then ?_)
 refine gc_ret ?_
 refine gk_result (L' := C ++ L) (.inl rfl) _ (res1 rfl rfl) sbl gle ?_
 exact ⟨C, hO, rfl, rfl⟩
set_option maxHeartbeats 1000000 in
theorem rheads_cc (H : Gh) (L : Chunks) {b : Nat} {s : DSet} {v0 v1 v2 v3 : Value} {ov wv : List (POp × Value)} (hV : RView H L b s v0 v1 v2 v3 ov wv) (hb : s.ops.length < 16777216) :
    CC Tryd.prog 59 #[pt b 0] H L (fun u H' L' => ∃ C, Ow 34 32 C u (heads s).length ((heads s).flatMap encId) ∧ H = H' ∧ C ++ L = L') := by
 obtain ⟨ns, hns⟩ : ∃ ns, s.ops.map (·.1) = ns := ⟨_, rfl⟩
 have hN := hV.names
 rw [hns] at hN
 have hnl : ns.length = s.ops.length := by rw [← hns]; simp
 obtain ⟨A, bv, of, cv, lv, rfl, hcv, hnv, hv0, hv1, hv2⟩ := hN
 obtain ⟨⟨A0, bo, oo, co, lo, rfl, hco, hno, ho0, ho1, ho2⟩, hop⟩ := hV.ops
 have hovl : ov.length = s.ops.length := by have := congrArg List.length hV.opsE; simpa using this
 refine cc_of Tryd.func59 rfl (Nat.le_of_ble_eq_true rfl) ?_
 simp only [Tryd.ntmps59]
 refine gc_seq (gc_seqr [(.mv, 0)] rfl ?_)
 refine ga rfl rfl rfl rfl ?_
 refine gr_nil (gk_then ?_)
 refine gc_seq (gc_seqr [(.mv, 0)] rfl ?_)
 refine ga rfl rfl rfl rfl ?_
 refine gr_nil (gk_then ?_)
 refine gc_seq ?_
 refine gc_seq (gc_seqr [(.mv, 0), (.mv, 1), (.mv, 2), (.mv, 3), (.mv, 4), (.mv, 5)] rfl ?_)
 refine gm rfl rfl rfl rfl ?_
 refine gr_rd rfl rfl rfl (rd_nilCheck rfl) ?_
 refine gr_rd rfl rfl rfl (rd_fieldAddr Tryd.fa48_2 rfl) ?_
 refine gr_rd rfl rfl rfl (rd_load1 Tryd.to29 rfl hV.cells rfl) ?_
 refine gr_rd rfl rfl rfl (rd_lenS Tryd.underlying29 rfl) ?_
 refine gm rfl rfl rfl rfl ?_
 refine gr_nil (gk_then ?_)
 refine gc_block ?_
 refine gc_loop (fun t : Nat × Value × Chunks => [(0, pt b 0), (3, t.2.1), (14, .slice A ns.length cv), (15, i64 ns.length), (16, i64 t.1)]) (fun t H1 L1 => H = H1 ∧ L1 = t.2.2 ++ L ∧ t.1 ≤ ns.length ∧ Ow 34 32 t.2.2 t.2.1 ((ns.take t.1).filter fun n => !behind s n).length (((ns.take t.1).filter fun n => !behind s n).flatMap encId)) (fun t => ns.length - t.1) ((0, .slice none 0 0, [])) ?_ sbs ?_
 ·exact ⟨rfl, rfl, Nat.zero_le _, Ow.nil⟩
 ·rintro ⟨k, vo, C⟩ H1 L1 ⟨rfl, rfl, hk, hO⟩
  simp only at hk hO
  show GC _ _ _ _ [(0, pt b 0), (3, vo), (14, .slice A ns.length cv), (15, i64 ns.length), (16, i64 k)] H (C ++ L)
  refine gc_seq (gc_seqr [(.mv, 0)] rfl ?_)
  refine gr_rd rfl rfl rfl (rd_lss rfl rfl) ?_
  refine gr_nil (gk_then ?_)
  refine gc_seq ?_
  refine gc_cond rfl (fun hc0 => ?_) (fun hc0 => ?_)
  ·have hlt : k < ns.length := by simpa using hc0
   obtain ⟨hAe, hca, hsa⟩ := ids_at2 (i := (k : Int)) hv1 hv2 hlt rfl
   have hca1 : Cells H (C ++ L) bv lv := hca.mono (Gh.le_refl _) (fun x hx => List.mem_append_right _ hx)
   have hVc : Cells H (C ++ L) b [.slice A0 ov.length co, v1, .slice A ns.length cv, v3] := hV.cells.mono (Gh.le_refl _) (fun x hx => List.mem_append_right _ hx)
   refine gc_skip ?_
   refine gk_then ?_
   refine gc_seq ?_
   refine gc_block ?_
   refine gc_seq (gc_seqr [(.mv, 0), (.mv, 1), (.nm, 2), (.nm, 3)] rfl ?_)
   refine gr_rd rfl rfl rfl (rd_indexS Tryd.underlying29 Tryd.sizeOf34 rfl rfl hAe (by omega) (by omega)) ?_
   refine gr_rd rfl rfl rfl (rd_loadA Tryd.ta34 rfl hca1 hsa (encId_length _)) ?_
   refine gr_nx rfl rfl rfl (nx_alloc Tryd.zeroValue34 rfl) ?_; rintro _ _ _ _ ⟨b5, rfl, rfl, rfl⟩; refine ⟨trivial, ?_⟩
   refine gr_nx0 rfl rfl (nx_store (vs := encId (ns.getD k Nm.zero)) Tryd.sizeOf34 rfl rfl rfl (encId_length _) Upd.here (by simp) (encId_ones _)) ?_; rintro _ _ _ _ ⟨rfl, rfl, rfl⟩; refine ⟨trivial, ?_⟩
   rw [wr_all (by simp)]
   refine gr_nil (gk_then ?_)
   refine gc_seq (gc_seqr [(.mv, 0)] rfl ?_)
   refine ga rfl rfl rfl rfl ?_
   refine gr_nil (gk_then ?_)
   refine gc_seq ?_
   refine gc_seq (gc_seqr [(.mv, 0), (.mv, 1), (.mv, 2), (.mv, 3), (.mv, 4), (.mv, 5)] rfl ?_)
   refine gm rfl rfl rfl rfl ?_
   refine gr_rd rfl rfl rfl (rd_nilCheck rfl) ?_
   refine gr_rd rfl rfl rfl (rd_fieldAddr Tryd.fa48_0 rfl) ?_
   refine gr_rd rfl rfl rfl (rd_load1 Tryd.to25 rfl (mono_cons hVc) rfl) ?_
   refine gr_rd rfl rfl rfl (rd_lenS Tryd.underlying25 rfl) ?_
   refine gm rfl rfl rfl rfl ?_
   refine gr_nil (gk_then ?_)
   refine gc_block ?_
   refine gc_loop (fun i : Nat => [(0, pt b 0), (3, vo), (5, pt b5 0), (6, .bool (anyB ((ov.map (·.1)).take i) (ns.getD k Nm.zero))), (14, .slice A ns.length cv), (15, i64 ns.length), (16, i64 k), (23, .slice A0 ov.length co), (24, i64 ov.length), (25, i64 i)]) (fun i H1 L1 => H = H1 ∧ (b5, .cells (encId (ns.getD k Nm.zero)).toArray 34 (0, 0)) :: (C ++ L) = L1 ∧ i ≤ ov.length) (fun i => ov.length - i) (0) ?_ sbs ?_
   ·exact ⟨rfl, rfl, Nat.zero_le _⟩
   ·rintro i H1 L1 ⟨rfl, rfl, hi⟩
    refine gc_seq (gc_seqr [(.mv, 0)] rfl ?_)
    refine gr_rd rfl rfl rfl (rd_lss rfl rfl) ?_
    refine gr_nil (gk_then ?_)
    refine gc_seq ?_
    refine gc_cond rfl (fun hc1 => ?_) (fun hc1 => ?_)
    ·have hlti : i < ov.length := by simpa using hc1
     obtain ⟨hA0, hc0'⟩ := ho1 (List.ne_nil_of_length_pos (by omega))
     have hs0 := ho2 i _ (List.getElem?_eq_getElem hlti)
     have hoi : (ov.map (·.1))[i]? = some (ov[i]).1 := by simp [hlti]
     obtain ⟨Ap, bp, op, cp, lp, hpe, hcp, hnp, hp0, hp1, hp2⟩ := hop _ (List.getElem_mem hlti)
     have hc01 : Cells H ((b5, .cells (encId (ns.getD k Nm.zero)).toArray 34 (0, 0)) :: (C ++ L)) bo lo := hc0'.mono (Gh.le_refl _) (fun x hx => List.mem_cons_of_mem _ (List.mem_append_right _ hx))
     refine gc_skip ?_
     refine gk_then ?_
     refine gc_seq ?_
     refine gc_block ?_
     refine gc_seq (gc_seqr [(.mv, 0), (.mv, 1), (.nm, 2), (.nm, 3)] rfl ?_)
     refine gr_rd rfl rfl rfl (rd_indexS Tryd.underlying25 Tryd.sizeOf38 rfl rfl hA0 (by omega) (by omega)) ?_
     refine gr_rd rfl rfl rfl (rd_loadA Tryd.ta38 rfl hc01 (by rw [Int.toNat_natCast]; exact hs0) (encOpV_length _)) ?_
     refine gr_nx rfl rfl rfl (nx_alloc Tryd.zeroValue38 rfl) ?_; rintro _ _ _ _ ⟨b8, rfl, rfl, rfl⟩; refine ⟨trivial, ?_⟩
     refine gr_nx0 rfl rfl (nx_store (vs := encOpV ov[i]) Tryd.sizeOf38 rfl rfl rfl (encOpV_length _) Upd.here (by simp) (encOp_ones _ (SlT.one (hop _ (List.getElem_mem hlti))))) ?_; rintro _ _ _ _ ⟨rfl, rfl, rfl⟩; refine ⟨trivial, ?_⟩
     rw [wr_all (by simp)]
     refine gr_nil (gk_then ?_)
     refine gc_seq (gc_seqr [(.mv, 0), (.mv, 1), (.mv, 2), (.mv, 3)] rfl ?_)
     refine gr_rd rfl rfl rfl (rd_fieldAddr Tryd.fa38_3 rfl) ?_
     refine gr_rd rfl rfl rfl (rd_load1 Tryd.to29 rfl (Cells.own List.mem_cons_self) (v := .slice Ap (ov[i]).1.preds.length cp) (by rw [← hpe]; exact encOp_37 _ _)) ?_
     refine gr_rd rfl rfl rfl (rd_lenS Tryd.underlying29 rfl) ?_
     refine gm rfl rfl rfl rfl ?_
     refine gr_nil (gk_then ?_)
     refine gc_block ?_
     refine gc_loop (fun j : Nat => [(0, pt b 0), (3, vo), (5, pt b5 0), (6, .bool (anyB ((ov.map (·.1)).take i) (ns.getD k Nm.zero) || ((ov[i]).1.preds.take j).any fun p => p == ns.getD k Nm.zero)), (14, .slice A ns.length cv), (15, i64 ns.length), (16, i64 k), (23, .slice A0 ov.length co), (24, i64 ov.length), (25, i64 i), (30, .slice Ap (ov[i]).1.preds.length cp), (31, i64 (ov[i]).1.preds.length), (32, i64 j)]) (fun j H1 L1 => H = H1 ∧ (b8, .cells (encOpV ov[i]).toArray 38 (0, 0)) :: (b5, .cells (encId (ns.getD k Nm.zero)).toArray 34 (0, 0)) :: (C ++ L) = L1 ∧ j ≤ (ov[i]).1.preds.length) (fun j => (ov[i]).1.preds.length - j) (0) ?_ (by refine Subs.cons rfl (Subs.cons rfl (Subs.cons rfl (Subs.cons ?_ sbs))); simp only [List.take_zero, List.any_nil, Bool.or_false]; rfl) ?_
     ·exact ⟨rfl, rfl, Nat.zero_le _⟩
     ·rintro j H1 L1 ⟨rfl, rfl, hj⟩
      refine gc_seq (gc_seqr [(.mv, 0)] rfl ?_)
      refine gr_rd rfl rfl rfl (rd_lss rfl rfl) ?_
      refine gr_nil (gk_then ?_)
      refine gc_seq ?_
      refine gc_cond rfl (fun hc2 => ?_) (fun hc2 => ?_)
      ·have hltj : j < (ov[i]).1.preds.length := by simpa using hc2
       obtain ⟨hAp, hcap, hsap⟩ := ids_at2 (i := (j : Int)) hp1 hp2 hltj rfl
       have hcap1 : Cells H ((b8, .cells (encOpV ov[i]).toArray 38 (0, 0)) :: (b5, .cells (encId (ns.getD k Nm.zero)).toArray 34 (0, 0)) :: (C ++ L)) bp lp := hcap.mono (Gh.le_refl _) (fun x hx => by cases hx)
       refine gc_skip ?_
       refine gk_then ?_
       refine gc_seq ?_
       refine gc_block ?_
       refine gc_seq (gc_seqr [(.mv, 0), (.mv, 1), (.nm, 2), (.nm, 3)] rfl ?_)
       refine gr_rd rfl rfl rfl (rd_indexS Tryd.underlying29 Tryd.sizeOf34 rfl rfl hAp (by omega) (by omega)) ?_
       refine gr_rd rfl rfl rfl (rd_loadA Tryd.ta34 rfl hcap1 hsap (encId_length _)) ?_
       refine gr_nx rfl rfl rfl (nx_alloc Tryd.zeroValue34 rfl) ?_; rintro _ _ _ _ ⟨b10, rfl, rfl, rfl⟩; refine ⟨trivial, ?_⟩
       refine gr_nx0 rfl rfl (nx_store (vs := encId ((ov[i]).1.preds.getD j Nm.zero)) Tryd.sizeOf34 rfl rfl rfl (encId_length _) Upd.here (by simp) (encId_ones _)) ?_; rintro _ _ _ _ ⟨rfl, rfl, rfl⟩; refine ⟨trivial, ?_⟩
       rw [wr_all (by simp)]
       refine gr_nil (gk_then ?_)
       refine gc_seqr [(.mv, 0), (.mv, 1), (.mv, 2), (.mv, 3), (.mv, 4), (.mv, 5), (.mv, 6)] rfl ?_
       refine gm rfl rfl rfl rfl ?_
       refine gm rfl rfl rfl rfl ?_
       refine gr_split rfl (fun hg1 => ?_) (fun hg1 => ?_)
       ·skip
        refine gr_no rfl rfl rfl ?_
        refine gr_no rfl rfl rfl ?_
        refine gr_no rfl rfl rfl ?_
        (first | refine gpt rfl rfl rfl rfl rfl ?_ | refine gpf rfl rfl rfl rfl rfl ?_)
        refine ga rfl rfl rfl rfl ?_
        refine gr_nil ?_
        refine gk_inBlock ?_
        refine gk_then ?_
        refine gc_seqr [(.mv, 0), (.mv, 1)] rfl ?_
        (first | refine gr_rd rfl rfl rfl (rd_add rfl rfl (IntWalk.i64_in _ (by omega))) ?_ | refine gr_rd rfl rfl rfl (rd_add rfl rfl rfl) ?_)
        refine gm rfl rfl rfl rfl ?_
        refine gr_nil ?_
        refine gk_drop (L' := (b8, .cells (encOpV ov[i]).toArray 38 (0, 0)) :: (b5, .cells (encId (ns.getD k Nm.zero)).toArray 34 (0, 0)) :: (C ++ L)) sbl ?_
        refine gk_round (j + 1) (by omega) ⟨rfl, rfl, by omega⟩ ?_
        refine Subs.cons rfl (Subs.cons rfl (Subs.cons rfl (Subs.cons ?_ sbs)))
        simp only [find, cond]
        rw [any_take _ hltj, ← Bool.or_assoc, hg1]
        first
          | (rw [Bool.true_or] <;> rfl)
          | (rw [Bool.false_or, ← nm_beq] <;> rfl)
       ·skip
        refine gr_rd rfl rfl rfl (rd_loadA Tryd.ta34 rfl cel sg lnk) ?_
        refine gr_rd rfl rfl rfl (rd_loadA Tryd.ta34 rfl cel sg lnk) ?_
        refine gr_rd rfl rfl rfl (rd_arrEq Tryd.tb34 (by first | exact Nm.len _ | assumption | simp) (by first | exact Nm.len _ | assumption | simp) rfl rfl) ?_
        (first | refine gpt rfl rfl rfl rfl rfl ?_ | refine gpf rfl rfl rfl rfl rfl ?_)
        refine ga rfl rfl rfl rfl ?_
        refine gr_nil ?_
        refine gk_inBlock ?_
        refine gk_then ?_
        refine gc_seqr [(.mv, 0), (.mv, 1)] rfl ?_
        (first | refine gr_rd rfl rfl rfl (rd_add rfl rfl (IntWalk.i64_in _ (by omega))) ?_ | refine gr_rd rfl rfl rfl (rd_add rfl rfl rfl) ?_)
        refine gm rfl rfl rfl rfl ?_
        refine gr_nil ?_
        refine gk_drop (L' := (b8, .cells (encOpV ov[i]).toArray 38 (0, 0)) :: (b5, .cells (encId (ns.getD k Nm.zero)).toArray 34 (0, 0)) :: (C ++ L)) sbl ?_
        refine gk_round (j + 1) (by omega) ⟨rfl, rfl, by omega⟩ ?_
        refine Subs.cons rfl (Subs.cons rfl (Subs.cons rfl (Subs.cons ?_ sbs)))
        simp only [find, cond]
        rw [any_take _ hltj, ← Bool.or_assoc, hg1]
        first
          | (rw [Bool.true_or] <;> rfl)
          | (rw [Bool.false_or, ← nm_beq] <;> rfl)
      ·have hjl : j = (ov[i]).1.preds.length := by simp at hc2; omega
       refine gc_exit ?_
       refine gk_exit_then ?_
       refine gk_exit_then ?_
       refine gk_here ?_
       refine gk_inBlock ?_
       refine gk_then ?_
       refine gc_seqr [(.mv, 0), (.mv, 1)] rfl ?_
       (first | refine gr_rd rfl rfl rfl (rd_add rfl rfl (IntWalk.i64_in _ (by omega))) ?_ | refine gr_rd rfl rfl rfl (rd_add rfl rfl rfl) ?_)
       refine gm rfl rfl rfl rfl ?_
       refine gr_nil ?_
       refine gk_drop (L' := (b5, .cells (encId (ns.getD k Nm.zero)).toArray 34 (0, 0)) :: (C ++ L)) sbl ?_
       refine gk_round (i + 1) (by omega) ⟨rfl, rfl, by omega⟩ ?_
       refine Subs.cons rfl (Subs.cons rfl (Subs.cons rfl (Subs.cons ?_ sbs)))
       simp only [find, cond]
       rw [anyB_take _ hoi, hjl, List.take_length] <;> rfl
    ·have hil : i = (ov.map (·.1)).length := by have := of_decide_eq_false hc1; rw [List.length_map]; omega
     rw [hil, List.take_length]
     have hbe : behind s (ns.getD k Nm.zero) = anyB (ov.map (·.1)) (ns.getD k Nm.zero) := behind_any hV.opsE
     have hfl := List.length_filter_le (fun n => !behind s n) (ns.take k)
     rw [List.length_take] at hfl
     refine gc_exit ?_
     refine gk_exit_then ?_
     refine gk_exit_then ?_
     refine gk_here ?_
     refine gk_then ?_
     refine gc_seq (gc_seqr [(.mv, 0), (.mv, 1)] rfl ?_)
     refine gm rfl rfl rfl rfl ?_
     refine gr_rd rfl rfl rfl (rd_not rfl) ?_
     refine gr_nil (gk_then ?_)
     refine gc_cond rfl (fun hc3 => ?_) (fun hc3 => ?_)
     ·skip
      refine gc_seqr [(.mv, 0), (.mv, 1), (.nm, 2), (.nm, 3), (.mv, 4)] rfl ?_
      refine gm rfl rfl rfl rfl ?_
      refine gr_rd rfl rfl rfl (rd_loadA Tryd.ta34 rfl cel sg lnk) ?_
      refine gr_nx rfl rfl rfl (nx_sliceA1 Tryd.underlying29 Tryd.sizeOf34 Tryd.zeroValue34 rfl rfl rfl lnk rfl) ?_; rintro _ _ _ _ ⟨b48, rfl, rfl, rfl⟩; refine ⟨trivial, ?_⟩
      refine gr_nx rfl rfl rfl (nx_append (m := 1) Tryd.app29_29 rfl rfl hO pik (src_slice (b := b48) (o := 0) (l := encId (ns.getD k Nm.zero)) (m := 1) (by simp) (encId_ones _) (fun h => by cases h) (fun _ _ => ⟨rfl, Cells.own List.mem_cons_self, Seg.all _⟩)) (by omega) (by omega)) ?_; rintro v49 H' L' hle ⟨C2, hO2, _, rfl, rfl⟩; refine ⟨trivial, ?_⟩
      refine ga rfl rfl rfl rfl ?_
      refine gr_nil ?_
      refine gk_inBlock ?_
      refine gk_then ?_
      refine gc_seqr [(.mv, 0), (.mv, 1)] rfl ?_
      (first | refine gr_rd rfl rfl rfl (rd_add rfl rfl (IntWalk.i64_in _ (by omega))) ?_ | refine gr_rd rfl rfl rfl (rd_add rfl rfl rfl) ?_)
      refine gm rfl rfl rfl rfl ?_
      refine gr_nil ?_
      first
        | (refine gk_drop (L' := C2 ++ L) sbl ?_
           refine gk_round (k + 1, _, C2) ?_ ?_ sbs
           · show ns.length - (k + 1) < ns.length - k
             omega
           · refine ⟨rfl, rfl, by simp only; omega, ?_⟩
             simp only
             rw [filter_take _ hlt, if_pos (by rw [hbe]; exact hc3)]
             simpa using hO2)
        | (refine gk_drop (L' := C ++ L) sbl ?_
           refine gk_round (k + 1, _, C) ?_ ?_ sbs
           · show ns.length - (k + 1) < ns.length - k
             omega
           · refine ⟨rfl, rfl, by simp only; omega, ?_⟩
             simp only
             rw [filter_take _ hlt, if_neg (by rw [hbe, hc3] <;> simp), List.append_nil]
             exact hO)
     ·skip
      refine gc_skip ?_
      refine gk_inBlock ?_
      refine gk_then ?_
      refine gc_seqr [(.mv, 0), (.mv, 1)] rfl ?_
      (first | refine gr_rd rfl rfl rfl (rd_add rfl rfl (IntWalk.i64_in _ (by omega))) ?_ | refine gr_rd rfl rfl rfl (rd_add rfl rfl rfl) ?_)
      refine gm rfl rfl rfl rfl ?_
      refine gr_nil ?_
      first
        | (refine gk_drop (L' := C2 ++ L) sbl ?_
           refine gk_round (k + 1, _, C2) ?_ ?_ sbs
           · show ns.length - (k + 1) < ns.length - k
             omega
           · refine ⟨rfl, rfl, by simp only; omega, ?_⟩
             simp only
             rw [filter_take _ hlt, if_pos (by rw [hbe]; exact hc3)]
             simpa using hO2)
        | (refine gk_drop (L' := C ++ L) sbl ?_
           refine gk_round (k + 1, _, C) ?_ ?_ sbs
           · show ns.length - (k + 1) < ns.length - k
             omega
           · refine ⟨rfl, rfl, by simp only; omega, ?_⟩
             simp only
             rw [filter_take _ hlt, if_neg (by rw [hbe, hc3] <;> simp), List.append_nil]
             exact hO)
  ·have hge : k = ns.length := by simp at hc0; omega
   subst hge
   have hfl := List.length_filter_le (fun n => !behind s n) ns
   rw [List.take_length] at hO
   have hI : Ids H (C ++ L) vo (ns.filter fun n => !behind s n) := Ow.slT encId_length hO rfl (by omega) (fun x hx => List.mem_append_left _ hx)
   refine gc_exit ?_
   refine gk_exit_then ?_
   refine gk_exit_then ?_
   refine gk_here ?_
   refine gk_then ?_
   refine gc_seq (gc_seqr [(.mv, 0), (.nm, 1), (.mv, 2)] rfl ?_)
   refine gm rfl rfl rfl rfl ?_
   refine gr_nx rfl rfl rfl (nx_call Tryd.en41 rfl (rising_cc _ _ _ _ hI (by omega))) ?_; rintro v52 H' L' hle ⟨C1, hO1, rfl, rfl⟩; refine ⟨trivial, ?_⟩
   refine ga rfl rfl rfl rfl ?_
   refine gr_nil (gk_then ?_)
   refine gc_ret ?_
   refine gk_result (L' := C1 ++ L) (.inl rfl) _ (res1 rfl rfl) sbl gle ?_
   exact ⟨C1, by rw [heads, hns]; exact hO1, rfl, rfl⟩
end Go.Proofs.YtfhldfjknagidaaDoor

/-
  Walks: same operations.
-/
set_option linter.unusedSimpArgs false
set_option linter.unusedVariables false
set_option linter.unnecessarySimpa false
set_option linter.all false
namespace Go.Proofs.YtfhldfjknagidaaDoor
open Go.VK Go.Tr
set_option maxRecDepth 20000
attribute [local irreducible] Go.Tr.sha
theorem part_draft (w : World) (a : Draft) : (part 34 (encDraft a).toArray 3).run Tryd.prog w = .ok (ag (encId a.ref)) w := by
  have e : List.take 32 (List.drop 3 (encDraft a)) = encId a.ref := List.take_of_length_le (by simp [encDraft])
  simp [part, Tryd.isAgg34, Tryd.sizeOf34, e]
theorem draft_dec (a b : Draft) : decide (a = b) = ((a.kind == b.kind) && decide (a.key = b.key) && decide (a.value = b.value) && (a.ref.bytes == b.ref.bytes)) := by
  have : a = b ↔ (a.kind = b.kind ∧ a.key = b.key ∧ a.value = b.value ∧ a.ref.bytes = b.ref.bytes) := by
    constructor
    · rintro rfl; exact ⟨rfl, rfl, rfl, rfl⟩
    · rintro ⟨h1, h2, h3, h4⟩
      have := Nm.ext' h4
      cases a; cases b; simp_all
  rw [Bool.eq_iff_iff]
  simp [this, and_assoc]
theorem run_draftEq (w : World) (a b : Draft) : (Op.equalIn 10000 36 (ag (encDraft a)) (ag (encDraft b))).run Tryd.prog w = .ok (decide (a = b)) w := by
  have h := run_equalIn_struct (P := Tryd.prog) w 9999 36 (encDraft a).toArray (encDraft b).toArray (by simp only [Program.fieldsOf, Tryd.underlying36]) (by kernel_rfl)
  simp only [Program.fieldsOf, Tryd.underlying36] at h
  have h2 := run_equalIn_bytes (P := Tryd.prog) w 9997 34 5 32 Tryd.underlying34 Tryd.underlying5 Tryd.sizeOf5 a.ref.bytes b.ref.bytes a.ref.len b.ref.len
  have h3 : (Op.equalIn 9999 34 (ag (encId a.ref)) (ag (encId b.ref))).run Tryd.prog w = .ok (a.ref.bytes == b.ref.bytes) w := h2
  have pk : ∀ x : Draft, (part 3 (encDraft x).toArray 0).run Tryd.prog w = .ok (i64 x.kind) w := fun x => by simp [part, Tryd.isAgg3]; rfl
  have p1 : ∀ x : Draft, (part 9 (encDraft x).toArray 1).run Tryd.prog w = .ok (str x.key) w := fun x => by simp [part, Tryd.isAgg9]; rfl
  have p2 : ∀ x : Draft, (part 9 (encDraft x).toArray 2).run Tryd.prog w = .ok (str x.value) w := fun x => by simp [part, Tryd.isAgg9]; rfl
  have q0 := run_equalIn_int (P := Tryd.prog) w 9998 3 .i64 .i64 a.kind b.kind Tryd.underlying3
  have q1 := run_equalIn_string (P := Tryd.prog) w 9998 9 ⟨a.key.toArray⟩ ⟨b.key.toArray⟩ Tryd.underlying9
  have q2 := run_equalIn_string (P := Tryd.prog) w 9998 9 ⟨a.value.toArray⟩ ⟨b.value.toArray⟩ Tryd.underlying9
  rw [bytes_beq, dec_str] at q1 q2
  rw [h, draft_dec]
  simp only [Op.eqFields, Sem.run_bind, pk, p1, p2, part_draft, h3, q0, q1, q2, Result.andThen_ok, Sem.run_ite, Sem.run_pure]
  cases (a.kind == b.kind) <;> cases decide (a.key = b.key) <;> cases decide (a.value = b.value) <;> cases (a.ref.bytes == b.ref.bytes) <;> simp
theorem rd_draftNe {E : Env} {H : Gh} {L : Chunks} {t T' : TypeId} {x y : Operand} {a b : Draft} (hx : ev E x = some (ag (encDraft a))) (hy : ev E y = some (ag (encDraft b))) :
    Rd Tryd.prog E H L (.binOp .neq 36 x y T') t (.bool (!decide (a = b))) := fun A w N hA _ => by
  have h1 := run_eqGuard_agg (P := Tryd.prog) w .neq 36 x y (encDraft a).toArray (encDraft b).toArray (by kernel_rfl)
  have h2 := run_draftEq w a b
  simp only [execOp, hA.ev hx, hA.ev hy]
  rw [Sem.run_bind, Sem.run_bind, h1]
  simp only [Result.andThen_ok]
  rw [run_neq_struct, h2]
  rfl
theorem op_ne_at {a b : POp} {k : Nat} (hl : a.preds.length = b.preds.length) (hk : k < a.preds.length) (h : ((a.preds.getD k Nm.zero).bytes != (b.preds.getD k Nm.zero).bytes) = true) : decide (a = b) = false := by
  rw [decide_eq_false_iff_not]; rintro rfl; simp at h
theorem op_eq_all {a b : POp} {k : Nat} (h1 : a.draft = b.draft) (h2 : a.author = b.author) (h3 : a.depth = b.depth) (hl : a.preds.length = b.preds.length) (hk : ¬ k < a.preds.length) (h : ∀ j, j < k → a.preds.getD j Nm.zero = b.preds.getD j Nm.zero) : decide (a = b) = true := by
  have : a.preds = b.preds := by
    apply List.ext_getElem hl
    intro j hj1 hj2
    have := h j (by omega)
    rw [List.getD_eq_getElem?_getD, List.getD_eq_getElem?_getD, List.getElem?_eq_getElem hj1, List.getElem?_eq_getElem hj2] at this
    exact this
  cases a; cases b; simp_all

theorem same_cc (H : Gh) (L : Chunks) (a b : POp) (pa pb : Value) (ha : Ids H L pa a.preds) (hb : Ids H L pb b.preds) :
    CC Tryd.prog 20 #[ag (encOp a pa), ag (encOp b pb)] H L (fun v H' L' => v = .bool (decide (a = b)) ∧ H = H' ∧ L = L') := by
 obtain ⟨A, bv, of, cv, lv, rfl, hcv, hnv, hv0, hv1, hv2⟩ := ha
 obtain ⟨B, bw, og, cb, lw, rfl, hcb, hnb, hw0, hw1, hw2⟩ := hb
 refine cc_of Tryd.func20 rfl (Nat.le_of_ble_eq_true rfl) ?_
 simp only [Tryd.ntmps20]
 refine gc_seq (gc_seqr [(.nm, 0), (.nm, 1), (.mv, 2)] rfl ?_)
 refine gr_nx rfl rfl rfl (nx_box rfl rfl) ?_; rintro _ _ _ _ ⟨b2, rfl, rfl, rfl⟩; refine ⟨trivial, ?_⟩
 refine gr_nx rfl rfl rfl (nx_box rfl rfl) ?_; rintro _ _ _ _ ⟨b3, rfl, rfl, rfl⟩; refine ⟨trivial, ?_⟩
 refine ga rfl rfl rfl rfl ?_
 refine gr_nil (gk_then ?_)
 refine gc_seq ?_
 refine gc_seq (gc_seqr [(.mv, 0), (.mv, 1), (.mv, 2), (.mv, 3), (.mv, 4), (.mv, 5), (.mv, 6), (.mv, 7), (.mv, 8), (.mv, 9), (.mv, 10), (.mv, 11), (.mv, 12), (.mv, 13), (.mv, 14), (.mv, 15), (.mv, 16), (.mv, 17), (.mv, 18), (.mv, 19), (.mv, 20), (.mv, 21), (.mv, 22), (.mv, 23), (.mv, 24), (.mv, 25), (.mv, 26), (.mv, 27)] rfl ?_)
 refine gr_rd rfl rfl rfl (rd_fieldAddr Tryd.fa38_0 rfl) ?_
 refine gr_rd rfl rfl rfl (rd_loadA Tryd.ta36 rfl (Cells.own (List.mem_cons_of_mem _ List.mem_cons_self)) (encOp_seg_draft a _) (encDraft_length _)) ?_
 refine gr_rd rfl rfl rfl (rd_fieldAddr Tryd.fa38_0 rfl) ?_
 refine gr_rd rfl rfl rfl (rd_loadA Tryd.ta36 rfl (Cells.own List.mem_cons_self) (encOp_seg_draft b _) (encDraft_length _)) ?_
 refine gr_rd rfl rfl rfl (rd_draftNe rfl rfl) ?_
 refine gm rfl rfl rfl rfl ?_
 refine gr_split rfl (fun hg5 => ?_) (fun hg5 => ?_)
 ·skip
  refine gr_no rfl rfl rfl ?_
  refine gr_no rfl rfl rfl ?_
  refine gr_no rfl rfl rfl ?_
  refine gr_no rfl rfl rfl ?_
  refine gr_no rfl rfl rfl ?_
  (first | refine gpt rfl rfl rfl rfl rfl ?_ | refine gpf rfl rfl rfl rfl rfl ?_)
  refine gm rfl rfl rfl rfl ?_
  refine gr_no rfl rfl rfl ?_
  refine gr_no rfl rfl rfl ?_
  refine gr_no rfl rfl rfl ?_
  refine gr_no rfl rfl rfl ?_
  refine gr_no rfl rfl rfl ?_
  (first | refine gpt rfl rfl rfl rfl rfl ?_ | refine gpf rfl rfl rfl rfl rfl ?_)
  refine gm rfl rfl rfl rfl ?_
  refine gr_no rfl rfl rfl ?_
  refine gr_no rfl rfl rfl ?_
  refine gr_no rfl rfl rfl ?_
  refine gr_no rfl rfl rfl ?_
  refine gr_no rfl rfl rfl ?_
  refine gr_no rfl rfl rfl ?_
  refine gr_no rfl rfl rfl ?_
  (first | refine gpt rfl rfl rfl rfl rfl ?_ | refine gpf rfl rfl rfl rfl rfl ?_)
  refine gr_nil (gk_then ?_)
  refine gc_yes rfl ?_
  refine gc_seq (gc_seqr [(.mv, 0)] rfl ?_)
  refine ga rfl rfl rfl rfl ?_
  refine gr_nil (gk_then ?_)
  refine gc_ret ?_
  refine gk_ret_then ?_
  refine gk_result (L' := L) (.inl rfl) _ (res1 rfl rfl) sbl gle ?_
  refine ⟨?_, rfl, rfl⟩
  congr 1
  symm
  rw [decide_eq_false_iff_not]
  rintro rfl
  simp_all
 ·skip
  refine gr_rd rfl rfl rfl (rd_fieldAddr Tryd.fa38_1 rfl) ?_
  refine gr_rd rfl rfl rfl (rd_load1 Tryd.to3 rfl cel at1) ?_
  refine gr_rd rfl rfl rfl (rd_fieldAddr Tryd.fa38_1 rfl) ?_
  refine gr_rd rfl rfl rfl (rd_load1 Tryd.to3 rfl cel at1) ?_
  refine gr_rd rfl rfl rfl (rd_neq rfl rfl) ?_
  (first | refine gpt rfl rfl rfl rfl rfl ?_ | refine gpf rfl rfl rfl rfl rfl ?_)
  refine gm rfl rfl rfl rfl ?_
  refine gr_split rfl (fun hg12 => ?_) (fun hg12 => ?_)
  ·skip
   refine gr_no rfl rfl rfl ?_
   refine gr_no rfl rfl rfl ?_
   refine gr_no rfl rfl rfl ?_
   refine gr_no rfl rfl rfl ?_
   refine gr_no rfl rfl rfl ?_
   (first | refine gpt rfl rfl rfl rfl rfl ?_ | refine gpf rfl rfl rfl rfl rfl ?_)
   refine gm rfl rfl rfl rfl ?_
   refine gr_no rfl rfl rfl ?_
   refine gr_no rfl rfl rfl ?_
   refine gr_no rfl rfl rfl ?_
   refine gr_no rfl rfl rfl ?_
   refine gr_no rfl rfl rfl ?_
   refine gr_no rfl rfl rfl ?_
   refine gr_no rfl rfl rfl ?_
   (first | refine gpt rfl rfl rfl rfl rfl ?_ | refine gpf rfl rfl rfl rfl rfl ?_)
   refine gr_nil (gk_then ?_)
   refine gc_yes rfl ?_
   refine gc_seq (gc_seqr [(.mv, 0)] rfl ?_)
   refine ga rfl rfl rfl rfl ?_
   refine gr_nil (gk_then ?_)
   refine gc_ret ?_
   refine gk_ret_then ?_
   refine gk_result (L' := L) (.inl rfl) _ (res1 rfl rfl) sbl gle ?_
   refine ⟨?_, rfl, rfl⟩
   congr 1
   symm
   rw [decide_eq_false_iff_not]
   rintro rfl
   simp_all
  ·skip
   refine gr_rd rfl rfl rfl (rd_fieldAddr Tryd.fa38_2 rfl) ?_
   refine gr_rd rfl rfl rfl (rd_load1 Tryd.to3 rfl cel at1) ?_
   refine gr_rd rfl rfl rfl (rd_fieldAddr Tryd.fa38_2 rfl) ?_
   refine gr_rd rfl rfl rfl (rd_load1 Tryd.to3 rfl cel at1) ?_
   refine gr_rd rfl rfl rfl (rd_neq rfl rfl) ?_
   (first | refine gpt rfl rfl rfl rfl rfl ?_ | refine gpf rfl rfl rfl rfl rfl ?_)
   refine gm rfl rfl rfl rfl ?_
   refine gr_split rfl (fun hg19 => ?_) (fun hg19 => ?_)
   ·skip
    refine gr_no rfl rfl rfl ?_
    refine gr_no rfl rfl rfl ?_
    refine gr_no rfl rfl rfl ?_
    refine gr_no rfl rfl rfl ?_
    refine gr_no rfl rfl rfl ?_
    refine gr_no rfl rfl rfl ?_
    refine gr_no rfl rfl rfl ?_
    (first | refine gpt rfl rfl rfl rfl rfl ?_ | refine gpf rfl rfl rfl rfl rfl ?_)
    refine gr_nil (gk_then ?_)
    refine gc_yes rfl ?_
    refine gc_seq (gc_seqr [(.mv, 0)] rfl ?_)
    refine ga rfl rfl rfl rfl ?_
    refine gr_nil (gk_then ?_)
    refine gc_ret ?_
    refine gk_ret_then ?_
    refine gk_result (L' := L) (.inl rfl) _ (res1 rfl rfl) sbl gle ?_
    refine ⟨?_, rfl, rfl⟩
    congr 1
    symm
    rw [decide_eq_false_iff_not]
    rintro rfl
    simp_all
   ·skip
    refine gr_rd rfl rfl rfl (rd_fieldAddr Tryd.fa38_3 rfl) ?_
    refine gr_rd rfl rfl rfl (rd_load1 Tryd.to29 rfl cel at1) ?_
    refine gr_rd rfl rfl rfl (rd_lenS Tryd.underlying29 rfl) ?_
    refine gr_rd rfl rfl rfl (rd_fieldAddr Tryd.fa38_3 rfl) ?_
    refine gr_rd rfl rfl rfl (rd_load1 Tryd.to29 rfl cel at1) ?_
    refine gr_rd rfl rfl rfl (rd_lenS Tryd.underlying29 rfl) ?_
    refine gr_rd rfl rfl rfl (rd_neq rfl rfl) ?_
    (first | refine gpt rfl rfl rfl rfl rfl ?_ | refine gpf rfl rfl rfl rfl rfl ?_)
    refine gr_nil (gk_then ?_)
    refine gc_cond rfl (fun hc0 => ?_) (fun hc0 => ?_)
    ·skip
     refine gc_seq (gc_seqr [(.mv, 0)] rfl ?_)
     refine ga rfl rfl rfl rfl ?_
     refine gr_nil (gk_then ?_)
     refine gc_ret ?_
     refine gk_ret_then ?_
     refine gk_result (L' := L) (.inl rfl) _ (res1 rfl rfl) sbl gle ?_
     refine ⟨?_, rfl, rfl⟩
     congr 1
     symm
     rw [decide_eq_false_iff_not]
     rintro rfl
     simp_all
    ·have hl : a.preds.length = b.preds.length := by have := iN_f.1 hc0; omega
     have e1 : a.draft = b.draft := by simpa using hg5
     have e2 : a.author = b.author := iN_f.1 hg12
     have e3 : a.depth = b.depth := iN_f.1 hg19
     refine gc_skip ?_
     refine gk_then ?_
     refine gc_seq ?_
     refine gc_seq (gc_seqr [(.mv, 0), (.mv, 1), (.mv, 2), (.mv, 3)] rfl ?_)
     refine gr_rd rfl rfl rfl (rd_fieldAddr Tryd.fa38_3 rfl) ?_
     refine gr_rd rfl rfl rfl (rd_load1 Tryd.to29 rfl cel at1) ?_
     refine gr_rd rfl rfl rfl (rd_lenS Tryd.underlying29 rfl) ?_
     refine gm rfl rfl rfl rfl ?_
     refine gr_nil (gk_then ?_)
     refine gc_block ?_
     refine gc_loop (fun k : Nat => [(2, pt b2 0), (3, pt b3 0), (36, i64 a.preds.length), (37, i64 k)]) (fun k H1 L1 => H = H1 ∧ (b3, .cells (encOp b (.slice B b.preds.length cb)).toArray 38 (0, 0)) :: (b2, .cells (encOp a (.slice A a.preds.length cv)).toArray 38 (0, 0)) :: L = L1 ∧ k ≤ a.preds.length ∧ ∀ j, j < k → a.preds.getD j Nm.zero = b.preds.getD j Nm.zero) (fun k => a.preds.length - k) (0) ?_ sbs ?_
     ·exact ⟨rfl, rfl, Nat.zero_le _, fun j hj => absurd hj (Nat.not_lt_zero _)⟩
     ·rintro k H1 L1 ⟨rfl, rfl, hk, hj⟩
      refine gc_seq (gc_seqr [(.mv, 0)] rfl ?_)
      refine gr_rd rfl rfl rfl (rd_lss rfl rfl) ?_
      refine gr_nil (gk_then ?_)
      refine gc_seq ?_
      refine gc_cond rfl (fun hc1 => ?_) (fun hc1 => ?_)
      ·have hlt : k < a.preds.length := by simpa using hc1
       obtain ⟨hAe, hca, hsa⟩ := ids_at2 (i := (k : Int)) hv1 hv2 hlt rfl
       obtain ⟨hBe, hcb', hsb⟩ := ids_at2 (i := (k : Int)) hw1 hw2 (show k < b.preds.length by omega) rfl
       refine gc_skip ?_
       refine gk_then ?_
       refine gc_seq ?_
       refine gc_block ?_
       refine gc_seq (gc_seqr [(.mv, 0), (.mv, 1)] rfl ?_)
       refine gm rfl rfl rfl rfl ?_
       refine ga rfl rfl rfl rfl ?_
       refine gr_nil (gk_then ?_)
       refine gc_seq ?_
       refine gc_draw Tryd.mixed [(.mv, 0), (.mv, 1), (.mv, 2), (.mv, 3), (.mv, 4), (.mv, 5), (.mv, 6), (.mv, 7), (.mv, 8), (.mv, 9), (.mv, 10)] (by decide +kernel) _ (List.Sublist.refl _) ?_
       refine gr_rd rfl rfl rfl (rd_fieldAddr Tryd.fa38_3 rfl) ?_
       refine gr_rd rfl rfl rfl (rd_load1 Tryd.to29 rfl cel at1) ?_
       refine gm rfl rfl rfl rfl ?_
       refine gr_rd rfl rfl rfl (rd_indexS Tryd.underlying29 Tryd.sizeOf34 rfl rfl hAe (by omega) (by omega)) ?_
       refine gr_rd rfl rfl rfl (rd_loadA Tryd.ta34 rfl (mono_cons (mono_cons hca)) hsa (encId_length _)) ?_
       refine gr_rd rfl rfl rfl (rd_fieldAddr Tryd.fa38_3 rfl) ?_
       refine gr_rd rfl rfl rfl (rd_load1 Tryd.to29 rfl cel at1) ?_
       refine gm rfl rfl rfl rfl ?_
       refine gr_rd rfl rfl rfl (rd_indexS Tryd.underlying29 Tryd.sizeOf34 rfl rfl hBe (by omega) (by omega)) ?_
       refine gr_rd rfl rfl rfl (rd_loadA Tryd.ta34 rfl (mono_cons (mono_cons hcb')) hsb (encId_length _)) ?_
       refine gr_rd rfl rfl rfl (rd_arrNe Tryd.tb34 (by first | exact Nm.len _ | assumption | simp) (by first | exact Nm.len _ | assumption | simp) rfl rfl) ?_
       refine gr_nil (gk_then ?_)
       refine gc_cond rfl (fun hc2 => ?_) (fun hc2 => ?_)
       ·skip
        refine gc_seq (gc_seqr [(.mv, 0)] rfl ?_)
        refine ga rfl rfl rfl rfl ?_
        refine gr_nil (gk_then ?_)
        refine gc_ret ?_
        refine gk_ret_inBlock ?_
        refine gk_ret_then ?_
        refine gk_ret_then ?_
        refine gk_ret_inBlock ?_
        refine gk_ret_then ?_
        refine gk_result (L' := L) (.inl rfl) _ (res1 rfl rfl) sbl gle ?_
        exact ⟨by rw [op_ne_at hl hlt hc2], rfl, rfl⟩
       ·skip
        refine gc_skip ?_
        refine gk_inBlock ?_
        refine gk_then ?_
        refine gc_seqr [(.mv, 0), (.mv, 1)] rfl ?_
        (first | refine gr_rd rfl rfl rfl (rd_add rfl rfl (IntWalk.i64_in _ (by omega))) ?_ | refine gr_rd rfl rfl rfl (rd_add rfl rfl rfl) ?_)
        refine gm rfl rfl rfl rfl ?_
        refine gr_nil ?_
        refine gk_round (k + 1) (by omega) ⟨rfl, rfl, by omega, fun j hj2 => ?_⟩ sbs
        by_cases e : j = k
        · subst e; exact Nm.ext' (by simpa using hc2)
        · exact hj j (by omega)
      ·skip
       refine gc_exit ?_
       refine gk_exit_then ?_
       refine gk_exit_then ?_
       refine gk_here ?_
       refine gk_then ?_
       refine gc_seq (gc_seqr [(.mv, 0)] rfl ?_)
       refine ga rfl rfl rfl rfl ?_
       refine gr_nil (gk_then ?_)
       refine gc_ret ?_
       refine gk_result (L' := L) (.inl rfl) _ (res1 rfl rfl) sbl gle ?_
       exact ⟨by rw [op_eq_all e1 e2 e3 hl (by simpa using hc1) hj], rfl, rfl⟩
end Go.Proofs.YtfhldfjknagidaaDoor

/-
  The order of names; rising lists; the least of those that are ready. No program, no memory.
-/
set_option linter.unusedSimpArgs false
set_option linter.unusedVariables false
set_option linter.unnecessarySimpa false
set_option linter.all false
namespace Go.Tr

theorem cmpB_self : ∀ a : Bs, cmpB a a = 0
  | [] => rfl
  | a :: x => by
    have : ¬ a < a := by rw [UInt8.lt_iff_toNat_lt]; omega
    rw [cmpB, if_neg this, if_neg this, cmpB_self x]
theorem cmpB_swap : ∀ a b : Bs, cmpB b a = - cmpB a b
  | [], [] => rfl
  | [], _ :: _ => rfl
  | _ :: _, [] => rfl
  | a :: x, b :: y => by
    have ih := cmpB_swap x y
    simp only [cmpB, UInt8.lt_iff_toNat_lt]
    by_cases h1 : a.toNat < b.toNat
    · rw [if_neg (by omega), if_pos h1, if_pos h1]; rfl
    · by_cases h2 : b.toNat < a.toNat
      · rw [if_pos h2, if_neg h1, if_pos h2]
      · rw [if_neg h2, if_neg h1, if_neg h1, if_neg h2, ih]
theorem cmpB_zero : ∀ a b : Bs, cmpB a b = 0 → a = b
  | [], [], _ => rfl
  | [], _ :: _, h => by simp [cmpB] at h
  | _ :: _, [], h => by simp [cmpB] at h
  | a :: x, b :: y, h => by
    simp only [cmpB, UInt8.lt_iff_toNat_lt] at h
    by_cases h1 : a.toNat < b.toNat
    · rw [if_pos h1] at h; simp at h
    · rw [if_neg h1] at h
      by_cases h2 : b.toNat < a.toNat
      · rw [if_pos h2] at h; simp at h
      · rw [if_neg h2] at h
        rw [cmpB_zero x y h, show a = b from UInt8.toNat_inj.1 (by omega)]
theorem cmpB_trans : ∀ a b c : Bs, cmpB a b < 0 → cmpB b c < 0 → cmpB a c < 0
  | [], [], _, h, _ => by simp [cmpB] at h
  | [], _ :: _, [], _, h => by simp [cmpB] at h
  | [], _ :: _, _ :: _, _, _ => by simp [cmpB]
  | _ :: _, [], _, h, _ => by simp [cmpB] at h
  | _ :: _, _ :: _, [], _, h => by simp [cmpB] at h
  | a :: x, b :: y, c :: z, h1, h2 => by
    have ih := cmpB_trans x y z
    simp only [cmpB, UInt8.lt_iff_toNat_lt] at h1 h2 ⊢
    by_cases e1 : a.toNat < b.toNat
    · by_cases e2 : b.toNat < c.toNat
      · rw [if_pos (by omega)]; decide
      · rw [if_neg e2] at h2
        by_cases e3 : c.toNat < b.toNat
        · rw [if_pos e3] at h2; exact absurd h2 (by decide)
        · rw [if_pos (by omega)]; decide
    · rw [if_neg e1] at h1
      by_cases e4 : b.toNat < a.toNat
      · rw [if_pos e4] at h1; exact absurd h1 (by decide)
      · rw [if_neg e4] at h1
        by_cases e2 : b.toNat < c.toNat
        · rw [if_pos (by omega)]; decide
        · rw [if_neg e2] at h2
          by_cases e3 : c.toNat < b.toNat
          · rw [if_pos e3] at h2; exact absurd h2 (by decide)
          · rw [if_neg e3] at h2
            rw [if_neg (by omega), if_neg (by omega)]; exact ih h1 h2

theorem cmp_swap (a b : Nm) : cmp b a = - cmp a b := cmpB_swap _ _
theorem cmp_self (a : Nm) : cmp a a = 0 := cmpB_self _
theorem cmp_zero {a b : Nm} (h : cmp a b = 0) : a = b := Nm.ext' (cmpB_zero _ _ h)
theorem cmp_trans {a b c : Nm} (h : cmp a b < 0) (k : cmp b c < 0) : cmp a c < 0 := cmpB_trans _ _ _ h k
theorem ltN_iff {a b : Nm} : ltN a b = true ↔ cmp a b < 0 := by simp [ltN]
theorem ltN_false {a b : Nm} : ltN a b = false ↔ ¬ cmp a b < 0 := by simp [ltN]
theorem ltN_irrefl (a : Nm) : ltN a a = false := by rw [ltN_false, cmp_self]; decide
theorem ltN_trans {a b c : Nm} (h : ltN a b = true) (k : ltN b c = true) : ltN a c = true := by
  rw [ltN_iff] at *; exact cmp_trans h k
theorem ltN_anti {a b : Nm} (h : ltN a b = false) (k : ltN b a = false) : a = b := by
  rw [ltN_false] at h k
  rw [cmp_swap] at k
  exact cmp_zero (by omega)
theorem ltN_asymm {a b : Nm} (h : ltN a b = true) : ltN b a = false := by
  rw [ltN_iff] at h; rw [ltN_false, cmp_swap]; omega
theorem ltN_ntrans {a b c : Nm} (h : ltN a b = false) (k : ltN b c = false) : ltN a c = false := by
  cases hac : ltN a c with
  | false => rfl
  | true =>
    cases hba : ltN b a with
    | false => have := ltN_anti h hba; subst this; rw [hac] at k; cases k
    | true => have := ltN_trans hba hac; rw [this] at k; cases k
theorem ltOf_cmp : Go.Proofs.ltOf cmp = ltN := rfl
theorem swo_cmp : Go.Sort.SWO (Go.Proofs.ltOf cmp) where
  irrefl x := by rw [ltOf_cmp]; exact ltN_irrefl x
  trans x y z := by rw [ltOf_cmp]; exact ltN_trans
  ntrans x y z := by rw [ltOf_cmp]; exact ltN_ntrans

/-! ## Rising lists -/
/-- Not behind. -/
def leN (a b : Nm) : Bool := !ltN b a
theorem leN_trans {a b c : Nm} (h : leN a b = true) (k : leN b c = true) : leN a c = true := by
  simp only [leN, Bool.not_eq_true'] at *; exact ltN_ntrans k h
theorem leN_of_lt {a b : Nm} (h : ltN a b = true) : leN a b = true := by
  simp only [leN, Bool.not_eq_true']; exact ltN_asymm h
theorem dropWhile_head {α : Type} (p : α → Bool) : ∀ (l : List α) (y : α) (r : List α), l.dropWhile p = y :: r → p y = false
  | [], y, r, h => by simp at h
  | x :: l, y, r, h => by
    rw [List.dropWhile_cons] at h
    split at h
    · exact dropWhile_head p l y r h
    · rename_i hx
      cases h; simpa using hx
theorem mem_takeWhile {α : Type} (p : α → Bool) : ∀ (l : List α) (x : α), x ∈ l.takeWhile p → p x = true
  | [], x, h => by simp at h
  | y :: l, x, h => by
    rw [List.takeWhile_cons] at h
    split at h
    · rcases List.mem_cons.1 h with rfl | h
      · assumption
      · exact mem_takeWhile p l x h
    · cases h
theorem ins_perm (xs : List Nm) (x : Nm) : (ins xs x).Perm (x :: xs) := by
  rw [ins]
  refine List.perm_middle.trans ?_
  rw [List.takeWhile_append_dropWhile]
theorem ins_sorted {xs : List Nm} (x : Nm) (h : xs.Pairwise fun a b => leN a b = true) : (ins xs x).Pairwise fun a b => leN a b = true := by
  have hs : (xs.takeWhile (fun y => ltN y x) ++ xs.dropWhile (fun y => ltN y x)).Pairwise fun a b => leN a b = true := by
    rw [List.takeWhile_append_dropWhile]; exact h
  rw [List.pairwise_append] at hs
  rw [ins, List.pairwise_append, List.pairwise_cons]
  have hd : ∀ y ∈ xs.dropWhile (fun y => ltN y x), leN x y = true := by
    intro y hy
    cases hdw : xs.dropWhile (fun y => ltN y x) with
    | nil => rw [hdw] at hy; cases hy
    | cons z r =>
      have hz := dropWhile_head _ _ _ _ hdw
      have hxz : leN x z = true := by simp only [leN, Bool.not_eq_true']; exact hz
      rw [hdw] at hy
      rcases List.mem_cons.1 hy with rfl | hy
      · exact hxz
      · have h3 := hs.2.1
        rw [hdw, List.pairwise_cons] at h3
        exact leN_trans hxz (h3.1 y hy)
  have ht : ∀ y ∈ xs.takeWhile (fun y => ltN y x), leN y x = true := by
    intro y hy
    have := mem_takeWhile _ _ _ hy
    exact leN_of_lt this
  refine ⟨hs.1, ⟨hd, hs.2.1⟩, fun a ha b hb => ?_⟩
  rcases List.mem_cons.1 hb with rfl | hb
  · exact ht a ha
  · exact hs.2.2 a ha b hb
theorem fold_perm (l : List Nm) : ∀ xs : List Nm, (l.foldl ins xs).Perm (l ++ xs) := by
  induction l with
  | nil => intro xs; exact List.Perm.refl _
  | cons x r ih =>
    intro xs
    rw [List.foldl_cons]
    refine (ih _).trans ?_
    refine ((ins_perm xs x).append_left r).trans ?_
    exact List.perm_middle
theorem rising_perm (l : List Nm) : (rising l).Perm l := by simpa [rising] using fold_perm l []
theorem fold_sorted (l : List Nm) : ∀ xs : List Nm, (xs.Pairwise fun a b => leN a b = true) → (l.foldl ins xs).Pairwise fun a b => leN a b = true := by
  induction l with
  | nil => intro xs h; exact h
  | cons x r ih => intro xs h; exact ih _ (ins_sorted x h)
theorem rising_sorted (l : List Nm) : (rising l).Pairwise fun a b => leN a b = true := fold_sorted l [] List.Pairwise.nil
theorem leN_anti {a b : Nm} (h : leN a b = true) (k : leN b a = true) : a = b := by
  simp only [leN, Bool.not_eq_true'] at *; exact ltN_anti k h
theorem sorted_eq {l l' : List Nm} (hp : l.Perm l') (h : l.Pairwise fun a b => leN a b = true) (h' : l'.Pairwise fun a b => leN a b = true) : l = l' :=
  List.Perm.eq_of_pairwise (le := fun a b => leN a b = true) (fun _ _ _ _ h1 h2 => leN_anti h1 h2) h h' hp
theorem rising_of_perm {l l' : List Nm} (hp : l.Perm l') : rising l = rising l' :=
  sorted_eq (((rising_perm l).trans hp).trans (rising_perm l').symm) (rising_sorted l) (rising_sorted l')
/-- A sort of whatever make gives the rising list. -/
theorem mergeSort_rising {l l' : List Nm} (hp : l.Perm l') : l.mergeSort (fun x y => !(Go.Proofs.ltOf cmp) y x) = rising l' := by
  have e : (fun x y => !(Go.Proofs.ltOf cmp) y x) = leN := by funext x y; rfl
  rw [e]
  refine sorted_eq (((List.mergeSort_perm l leN).trans hp).trans (rising_perm l').symm) ?_ (rising_sorted l')
  refine List.pairwise_mergeSort (le := leN) (fun a b c h k => leN_trans h k) (fun a b => ?_) l
  cases h : ltN b a with
  | false => simp [leN, h]
  | true => simp [leN, ltN_asymm h]
theorem mem_rising {l : List Nm} {n : Nm} : n ∈ rising l ↔ n ∈ l := (rising_perm l).mem_iff
theorem rising_nodup {l : List Nm} (h : l.Nodup) : (rising l).Nodup := (rising_perm l).nodup_iff.2 h
theorem rising_length (l : List Nm) : (rising l).length = l.length := (rising_perm l).length_eq

/-! ## Look-ups by name -/
theorem get_some_of {l : List (Nm × POp)} {n : Nm} {o : POp} {i : Nat} (hnd : (l.map (·.1)).Nodup) (h : l[i]? = some (n, o)) : get l n = some o := by
  induction l generalizing i with
  | nil => simp at h
  | cons p r ih =>
    rw [List.map_cons, List.nodup_cons] at hnd
    cases i with
    | zero =>
      simp only [List.getElem?_cons_zero, Option.some.injEq] at h
      subst h; simp [get]
    | succ i =>
      have hr : r[i]? = some (n, o) := by simpa using h
      have hne : p.1 ≠ n := fun e => hnd.1 (List.mem_map.2 ⟨_, List.mem_of_getElem? hr, e.symm⟩)
      have := ih hnd.2 hr
      have e1 : (p.1 == n) = false := by simp [hne]
      simp only [get, List.find?_cons, e1] at this ⊢; exact this
theorem get_mem {l : List (Nm × POp)} {n : Nm} {o : POp} (h : get l n = some o) : (n, o) ∈ l := by
  simp only [get, Option.map_eq_some_iff] at h
  obtain ⟨p, hp, rfl⟩ := h
  have h1 := List.find?_some hp
  have h2 := List.mem_of_find?_eq_some hp
  have : p.1 = n := by simpa using h1
  subst this; exact h2
theorem get_none {l : List (Nm × POp)} {n : Nm} : get l n = none ↔ has l n = false := by
  simp [get, has]
theorem get_isSome {l : List (Nm × POp)} {n : Nm} : (get l n).isSome = has l n := by
  cases h : has l n with
  | false => rw [get_none.2 h]; rfl
  | true =>
    cases hg : get l n with
    | some o => rfl
    | none => rw [get_none.1 hg] at h; cases h
theorem has_mem {l : List (Nm × POp)} {n : Nm} : has l n = true ↔ n ∈ l.map (·.1) := by
  simp [has]
theorem erase_filter {l : List (Nm × POp)} {n : Nm} {o : POp} {i : Nat} (hnd : (l.map (·.1)).Nodup) (h : l[i]? = some (n, o)) : l.eraseIdx i = l.filter fun p => !(p.1 == n) := by
  induction l generalizing i with
  | nil => simp at h
  | cons p r ih =>
    rw [List.map_cons, List.nodup_cons] at hnd
    cases i with
    | zero =>
      simp only [List.getElem?_cons_zero, Option.some.injEq] at h
      subst h
      have : r.filter (fun p => !(p.1 == n)) = r := by
        rw [List.filter_eq_self]
        intro q hq
        have : q.1 ≠ n := fun e => hnd.1 (List.mem_map.2 ⟨q, hq, e⟩)
        simp [this]
      simp [this]
    | succ i =>
      have hr : r[i]? = some (n, o) := by simpa using h
      have hne : p.1 ≠ n := fun e => hnd.1 (List.mem_map.2 ⟨_, List.mem_of_getElem? hr, e.symm⟩)
      simp [ih hnd.2 hr, hne]

/-! ## Who is ready -/
def readyB (s : DSet) (n : Nm) : Bool := (get s.wait n).any (whole s)
def readyOf (s : DSet) : Option Nm := (waits s).find? (readyB s)

theorem bestOf_spec (s : DSet) : ∀ (l : List (Nm × POp)) (i : Nat) (b : Option (Nat × Nm)),
    (bestOf s l i b = b ∧ ∀ p ∈ l, whole s p.2 = true → ∃ j m, b = some (j, m) ∧ ¬ cmp p.1 m < 0) ∨
    (∃ k n o, l[k]? = some (n, o) ∧ whole s o = true ∧ bestOf s l i b = some (i + k, n) ∧ (∀ j m, b = some (j, m) → cmp n m < 0) ∧ ∀ p ∈ l, whole s p.2 = true → ¬ cmp p.1 n < 0)
  | [], i, b => .inl ⟨rfl, fun p hp => by cases hp⟩
  | (n, o) :: r, i, b => by
    rw [show bestOf s ((n, o) :: r) i b = bestOf s r (i + 1) (if whole s o && (match b with | none => true | some (_, m) => cmp n m < 0) then some (i, n) else b) from rfl]
    by_cases hc : (whole s o && (match b with | none => true | some (_, m) => cmp n m < 0)) = true
    · rw [if_pos hc]
      simp only [Bool.and_eq_true] at hc
      obtain ⟨hw, hb⟩ := hc
      have hb' : ∀ j m, b = some (j, m) → cmp n m < 0 := fun j m e => by subst e; simpa using hb
      rcases bestOf_spec s r (i + 1) (some (i, n)) with ⟨h1, h2⟩ | ⟨k, n', o', h1, h2, h3, h4, h5⟩
      · refine .inr ⟨0, n, o, rfl, hw, by rw [h1]; rfl, hb', fun p hp hwp => ?_⟩
        rcases List.mem_cons.1 hp with rfl | hp
        · rw [cmp_self]; decide
        · obtain ⟨j, m, e, h⟩ := h2 p hp hwp
          cases e; exact h
      · refine .inr ⟨k + 1, n', o', by simpa using h1, h2, by rw [h3]; congr 2; omega, fun j m e => cmp_trans (h4 _ _ rfl) (hb' j m e), fun p hp hwp => ?_⟩
        rcases List.mem_cons.1 hp with rfl | hp
        · have := h4 _ _ rfl
          show ¬ cmp n n' < 0
          rw [cmp_swap]; omega
        · exact h5 p hp hwp
    · rw [if_neg hc]
      have hn : whole s o = true → ∃ j m, b = some (j, m) ∧ ¬ cmp n m < 0 := fun hw => by
        cases b with
        | none => exact absurd (by simp [hw]) hc
        | some q => exact ⟨q.1, q.2, rfl, fun h => hc (by simp [hw, h])⟩
      rcases bestOf_spec s r (i + 1) b with ⟨h1, h2⟩ | ⟨k, n', o', h1, h2, h3, h4, h5⟩
      · refine .inl ⟨h1, fun p hp hwp => ?_⟩
        rcases List.mem_cons.1 hp with rfl | hp
        · exact hn hwp
        · exact h2 p hp hwp
      · refine .inr ⟨k + 1, n', o', by simpa using h1, h2, by rw [h3]; congr 2; omega, h4, fun p hp hwp => ?_⟩
        rcases List.mem_cons.1 hp with rfl | hp
        · obtain ⟨j, m, e, h⟩ := hn hwp
          have := h4 j m e
          intro hlt
          exact h (cmp_trans hlt this)
        · exact h5 p hp hwp

theorem readyB_iff {s : DSet} {n : Nm} : readyB s n = true ↔ ∃ o, get s.wait n = some o ∧ whole s o = true := by
  simp only [readyB]
  cases get s.wait n <;> simp

theorem ready_none {s : DSet} (hnd : (s.wait.map (·.1)).Nodup) (h : readyOf s = none) : bestOf s s.wait 0 none = none := by
  rcases bestOf_spec s s.wait 0 none with ⟨h1, _⟩ | ⟨k, n, o, h1, h2, _⟩
  · exact h1
  · exfalso
    rw [readyOf, List.find?_eq_none] at h
    exact h n (mem_rising.2 (List.mem_map.2 ⟨_, List.mem_of_getElem? h1, rfl⟩)) (readyB_iff.2 ⟨o, get_some_of hnd h1, h2⟩)

theorem ready_some {s : DSet} {n : Nm} (hnd : (s.wait.map (·.1)).Nodup) (h : readyOf s = some n) :
    ∃ i o, bestOf s s.wait 0 none = some (i, n) ∧ s.wait[i]? = some (n, o) ∧ get s.wait n = some o ∧ whole s o = true ∧ s.wait.eraseIdx i = s.wait.filter fun p => !(p.1 == n) := by
  rw [readyOf, List.find?_eq_some_iff_append] at h
  obtain ⟨hr, xs, ys, hl, hnot⟩ := h
  obtain ⟨o, hg, hw⟩ := readyB_iff.1 hr
  rcases bestOf_spec s s.wait 0 none with ⟨_, h2⟩ | ⟨k, n', o', h1, h2, h3, _, h5⟩
  · obtain ⟨j, m, e, _⟩ := h2 _ (get_mem hg) hw
    cases e
  · have hn' : n' ∈ waits s := mem_rising.2 (List.mem_map.2 ⟨_, List.mem_of_getElem? h1, rfl⟩)
    have hr' : readyB s n' = true := readyB_iff.2 ⟨o', get_some_of hnd h1, h2⟩
    have hle : leN n n' = true := by
      have hs := rising_sorted (s.wait.map (·.1))
      change (waits s).Pairwise _ at hs
      rw [hl] at hn' hs
      rw [List.pairwise_append, List.pairwise_cons] at hs
      rcases List.mem_append.1 hn' with h | h
      · have := hnot _ h; rw [hr'] at this; cases this
      · rcases List.mem_cons.1 h with rfl | h
        · simp [leN, ltN_irrefl]
        · exact hs.2.1.1 _ h
    have hlt : ltN n n' = false := ltN_false.2 (h5 _ (get_mem hg) hw)
    have e : n = n' := ltN_anti hlt (by simpa [leN] using hle)
    subst e
    have ho : o' = o := by have := get_some_of hnd h1; rw [hg] at this; cases this; rfl
    subst ho
    exact ⟨k, o', by simpa using h3, h1, hg, hw, erase_filter hnd h1⟩

/-! ## How many stand behind -/
def cnt (l : List (Nm × POp)) (n : Nm) : Nat := (l.map fun p => p.2.preds.countP (· == n)).sum
theorem cnt_append (l : List (Nm × POp)) (p : Nm × POp) (n : Nm) : cnt (l ++ [p]) n = cnt l n + p.2.preds.countP (· == n) := by
  simp [cnt]
theorem behind_cnt (s : DSet) (n : Nm) : behind s n = decide (0 < cnt s.ops n) := by
  rw [behind]
  generalize s.ops = l
  induction l with
  | nil => simp [cnt]
  | cons p r ih =>
    rw [List.any_cons, ih]
    have h : (p.2.preds.any fun q => q == n) = decide (0 < p.2.preds.countP (· == n)) := by
      rw [Bool.eq_iff_iff]
      simp [List.countP_pos_iff]
    rw [h]
    simp only [cnt, List.map_cons, List.sum_cons]
    rw [Bool.eq_iff_iff]
    simp only [Bool.or_eq_true, decide_eq_true_eq]
    constructor
    · rintro (h | h)
      · exact Nat.lt_of_lt_of_le h (Nat.le_add_right _ _)
      · exact Nat.lt_of_lt_of_le (of_decide_eq_true h) (Nat.le_add_left _ _)
    · intro h
      rcases Nat.eq_zero_or_pos (List.countP (fun x => x == n) p.2.preds) with h0 | h0
      · rw [h0, Nat.zero_add] at h; exact .inr (decide_eq_true h)
      · exact .inl h0
end Go.Tr
