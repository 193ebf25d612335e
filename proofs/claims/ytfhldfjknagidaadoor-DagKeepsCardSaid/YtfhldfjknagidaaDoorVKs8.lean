/-
  Walks: what is a good operation; same operations; what is in a list.
-/
import Derived.Test.YtfhldfjknagidaaDoorVKs7
set_option linter.unusedSimpArgs false
set_option linter.unusedVariables false
namespace Go.Proofs.YtfhldfjknagidaaDoor
open Go.VK Go.Tr
set_option maxRecDepth 20000
attribute [local irreducible] Go.Tr.sha
theorem zero_build {P : Program} {E : Env} {H : Gh} {L : Chunks} {T e t : TypeId} {n k : Nat} {zl : List Value} {z : Value} (hT : P.underlying T = some (.array n e)) (hz : ∀ w, (zeroValue T).run P w = .ok z w) (hzl : z.cells = zl.toArray) (hk : ∀ w, (sizeOf e).run P w = .ok k w) :
    Rd P E H L (.build T #[]) t (ag zl) := rd_build (xs := []) (ps := []) (buildT_array hT hz hzl hk) rfl rfl
theorem nm_beq (a b : Nm) : (a.bytes == b.bytes) = (a == b) := by
  by_cases h : a = b
  · subst h; simp
  · have : a.bytes ≠ b.bytes := fun e => h (Nm.ext' e)
    rw [beq_eq_false_iff_ne.2 this, beq_eq_false_iff_ne.2 h]
theorem nil_len {α : Type} {l : List α} : l = [] ↔ l.length = 0 := List.length_eq_zero_iff.symm
/-- 1 for the zero name, 0 for another. -/
def zN (a : Nm) : Nat := if a = Nm.zero then 1 else 0
theorem zN_iff {a : Nm} : a.bytes = Nm.zero.bytes ↔ zN a = 1 := by
  unfold zN
  by_cases h : a = Nm.zero
  · simp [h]
  · simp [h]; exact fun e => h (Nm.ext' e)
theorem zN_le (a : Nm) : zN a ≤ 1 := by unfold zN; split <;> omega
theorem goodDraft_iff (d : Draft) : goodDraft d = true ↔ (1 ≤ d.kind ∧ d.kind ≤ 5 ∧ 1 ≤ d.key.length ∧ d.key.length ≤ 16 ∧ d.value.length ≤ 64 ∧ ((d.kind ≤ 3 ∧ zN d.ref = 1) ∨ d.kind = 4 ∨ (d.kind = 5 ∧ zN d.ref = 0 ∧ d.value.length = 0))) := by
  have hz : (d.ref == Nm.zero) = decide (zN d.ref = 1) := by
    unfold zN
    by_cases h : d.ref = Nm.zero <;> simp [h]
  have hl := zN_le d.ref
  unfold goodDraft
  rw [hz]
  simp only [Bool.and_eq_true, decide_eq_true_iff, Bool.or_eq_true, beq_iff_eq, Bool.not_eq_true', decide_eq_false_iff_not]
  split
  · simp only [decide_eq_true_iff]; omega
  · simp only [Bool.or_eq_true, Bool.and_eq_true, beq_iff_eq, Bool.not_eq_true', decide_eq_false_iff_not]; omega
def gN (d : Draft) : Nat := if goodDraft d = true then 1 else 0
theorem gN_t {d : Draft} : goodDraft d = true ↔ gN d = 1 := by unfold gN; split <;> simp_all
theorem gN_f {d : Draft} : goodDraft d = false ↔ gN d = 0 := by unfold gN; cases h : goodDraft d <;> simp
def rN (l : List Nm) : Nat := if risingB l = true then 1 else 0
theorem gN_le (d : Draft) : gN d ≤ 1 := by unfold gN; split <;> omega
theorem rN_le (l : List Nm) : rN l ≤ 1 := by unfold rN; split <;> omega
theorem good_iff (o : POp) : good o = true ↔ (gN o.draft = 1 ∧ 0 ≤ o.author ∧ o.author ≤ 4 ∧ ((o.preds.length = 0 ∧ o.depth = 1) ∨ (o.preds.length ≠ 0 ∧ 2 ≤ o.depth)) ∧ o.preds.length ≤ 32 ∧ rN o.preds = 1) := by
  have hr : risingB o.preds = true ↔ rN o.preds = 1 := by unfold rN; split <;> simp_all
  unfold good
  simp only [Bool.and_eq_true, decide_eq_true_iff, gN_t, hr]
  split
  · simp only [beq_iff_eq]; omega
  · simp only [decide_eq_true_iff]; omega
theorem rising_iff : ∀ (l : List Nm), risingB l = true ↔ ∀ j, j + 1 < l.length → cmp (l.getD j Nm.zero) (l.getD (j + 1) Nm.zero) < 0
  | [] => by simp [risingB]
  | [a] => by simp [risingB]
  | a :: b :: r => by
    have ih := rising_iff (b :: r)
    simp only [risingB, Bool.and_eq_true, ih, ltN, decide_eq_true_iff]
    constructor
    · rintro ⟨h1, h2⟩ j hj
      cases j with
      | zero => exact h1
      | succ j => exact h2 j (by simp only [List.length_cons] at hj ⊢; omega)
    · intro h
      exact ⟨h 0 (by simp), fun j hj => h (j + 1) (by simp only [List.length_cons] at hj ⊢; omega)⟩
theorem rN_one {l : List Nm} (h : ∀ j, j + 1 < l.length → cmp (l.getD j Nm.zero) (l.getD (j + 1) Nm.zero) < 0) : rN l = 1 := by unfold rN; rw [if_pos ((rising_iff l).2 h)]
theorem rN_zero {l : List Nm} {j : Nat} (hj : j + 1 < l.length) (h : ¬ cmp (l.getD j Nm.zero) (l.getD (j + 1) Nm.zero) < 0) : rN l = 0 := by
  unfold rN; rw [if_neg (fun e => h ((rising_iff l).1 e j hj))]
theorem cmpB_range : ∀ (a b : Bs), cmpB a b = -1 ∨ cmpB a b = 0 ∨ cmpB a b = 1
  | [], [] => .inr (.inl rfl)
  | [], _ :: _ => .inl rfl
  | _ :: _, [] => .inr (.inr rfl)
  | a :: x, b :: y => by
    unfold cmpB
    split
    · exact .inl rfl
    · split
      · exact .inr (.inr rfl)
      · exact cmpB_range x y
theorem ids_at2 {H : Gh} {L : Chunks} {b off : Nat} {l : List Value} {a : Option Addr} {xs : List Nm} (h1 : xs ≠ [] → a = some ⟨b, off, none⟩ ∧ Cells H L b l) (h2 : ∀ j x, xs[j]? = some x → Seg l (off + j * 32) (encId x)) {j : Nat} {i : Int} (hj : j < xs.length) (hi : i = (j : Int)) :
    a = some ⟨b, off, none⟩ ∧ Cells H L b l ∧ Seg l (off + i.toNat * 32) (encId (xs.getD j Nm.zero)) := by
  subst hi
  have h := ids_at h1 h2 hj
  rw [List.getD_eq_getElem?_getD, List.getElem?_eq_getElem hj]
  exact h
theorem iN_t {x y : Int} : (x != y) = true ↔ ¬ x = y := by simp
theorem iN_f {x y : Int} : (x != y) = false ↔ x = y := by simp
theorem bN_t {p q : Bool} : (p != q) = true ↔ ¬ (p = true ↔ q = true) := by cases p <;> cases q <;> simp
theorem bN_f {p q : Bool} : (p != q) = false ↔ (p = true ↔ q = true) := by cases p <;> cases q <;> simp
theorem mono_cons {H : Gh} {L : Chunks} {b : Nat} {l : List Value} {c : Nat × Obj} (h : Cells H L b l) : Cells H (c :: L) b l := h.mono (Gh.le_refl _) fun _ hx => List.mem_cons_of_mem _ hx

theorem goodDraft_cc (H : Gh) (L : Chunks) (d : Draft) :
    CC Tryd.prog 61 #[ag (encDraft d)] H L (fun v H' L' => v = .bool (goodDraft d) ∧ H = H' ∧ L = L') := by
  refine cc_of Tryd.func61 rfl (Nat.le_of_ble_eq_true rfl) ?_
  simp only [Tryd.ntmps61]
  refine gc_seq ?_
  refine gc_seqr [(.nm, 0), (.mv, 1)] rfl ?_
  refine gr_nx rfl rfl rfl (nx_box rfl rfl) ?_; rintro _ _ _ _ ⟨b1, rfl, rfl, rfl⟩; refine ⟨trivial, ?_⟩
  refine gr_rd rfl rfl rfl (rd_assign rfl) ?_
  refine gr_nil ?_
  refine gk_then ?_
  refine gc_seq ?_
  refine gc_seqr [(.mv, 0), (.mv, 1), (.mv, 2), (.mv, 3), (.mv, 4)] rfl ?_
  refine gr_rd rfl rfl rfl (rd_fieldAddr Tryd.fa36_3 rfl) ?_
  refine gr_rd rfl rfl rfl (rd_loadA Tryd.ta34 rfl (Cells.own List.mem_cons_self) (encDraft_seg_ref d) (encId_length _)) ?_
  refine gr_rd rfl rfl rfl (zero_build (zl := encId Nm.zero) Tryd.underlying34 Tryd.zeroValue34 rfl Tryd.sizeOf5) ?_
  refine gr_rd rfl rfl rfl (rd_arrNe Tryd.tb34 (by first | exact Nm.len _ | assumption | simp) (by first | exact Nm.len _ | assumption | simp) rfl rfl) ?_
  refine gr_rd rfl rfl rfl (rd_assign rfl) ?_
  refine gr_nil ?_
  refine gk_then ?_
  refine gc_seq ?_
  refine gc_seq ?_
  refine gc_seqr [(.mv, 0), (.mv, 1)] rfl ?_
  refine gr_rd rfl rfl rfl (rd_fieldAddr Tryd.fa36_0 rfl) ?_
  refine gr_rd rfl rfl rfl (rd_load1 Tryd.to3 rfl (by first | (apply Cells.own; (repeat (first | exact List.mem_cons_self | apply List.mem_cons_of_mem)); done) | assumption) (by first | rfl | assumption | exact encOp_37 _ _ | exact encOp_36 _ _ | exact encOp_35 _ _ | exact encOp_0 _ _ | exact encOp_1 _ _ | exact encOp_2 _ _ | exact encDraft_0 _ | exact encDraft_1 _ | exact encDraft_2 _ | simp)) ?_
  refine gr_nil ?_
  refine gk_then ?_
  refine gc_block ?_
  refine gc_seq ?_
  refine gc_seq ?_
  refine gc_seqr [(.mv, 0), (.mv, 1)] rfl ?_
  refine gr_rd rfl rfl rfl (rd_eql rfl rfl) ?_
  refine gr_rd rfl rfl rfl (rd_assign rfl) ?_
  refine gr_nil ?_
  refine gk_then ?_
  refine gc_cond rfl (fun hc0 => ?_) (fun hc0 => ?_)
  · skip
    refine gc_skip ?_
    refine gk_then ?_
    refine gc_cond rfl (fun hc1 => ?_) (fun hc1 => ?_)
    · skip
      refine gc_seq ?_
      refine gc_seqr [(.mv, 0)] rfl ?_
      refine gr_rd rfl rfl rfl (rd_move rfl) ?_
      refine gr_nil ?_
      refine gk_then ?_
      refine gc_cond rfl (fun hc2 => ?_) (fun hc2 => ?_)
      · skip
        refine gc_seq ?_
        refine gc_seqr [(.mv, 0)] rfl ?_
        refine gr_rd rfl rfl rfl (rd_assign rfl) ?_
        refine gr_nil ?_
        refine gk_then ?_
        refine gc_ret ?_
        refine gk_ret_inBlock ?_
        refine gk_ret_then ?_
        refine gk_result (L' := L) (.inl rfl) _ (res1 rfl rfl) (by repeat (first | exact List.Sublist.refl _ | apply List.Sublist.cons_cons | apply List.Sublist.cons | apply List.Sublist.append (List.Sublist.refl _) | refine List.Sublist.trans ?_ (List.sublist_append_right _ _))) (by first | exact Gh.le_refl _ | assumption | exact Gh.le_trans (by assumption) (by assumption)) ?_
        refine ⟨?_, rfl, rfl⟩
        congr 1
        rw [Bool.eq_iff_iff, goodDraft_iff]
        have hzl := zN_le d.ref
        simp only [beq_iff_eq, beq_eq_false_iff_ne, bne_iff_ne, bne_eq_false_iff_eq, Bool.not_eq_true', Bool.not_eq_false', decide_eq_true_iff, decide_eq_false_iff_not, nil_len, zN_iff, ne_eq, Bool.false_eq_true, iff_false, false_iff, not_and, not_or, true_iff, iff_true, Bool.not_not, Decidable.not_not] at * <;> omega
      · skip
        refine gc_skip ?_
        refine gk_inBlock ?_
        refine gk_then ?_
        refine gc_seq ?_
        refine gc_seqr [(.mv, 0), (.mv, 1), (.mv, 2), (.mv, 3), (.mv, 4), (.mv, 5), (.mv, 6), (.mv, 7), (.mv, 8), (.mv, 9), (.mv, 10), (.mv, 11), (.mv, 12), (.mv, 13), (.mv, 14), (.mv, 15)] rfl ?_
        refine gr_rd rfl rfl rfl (rd_fieldAddr Tryd.fa36_1 rfl) ?_
        refine gr_rd rfl rfl rfl (rd_load1 Tryd.to9 rfl (by first | (apply Cells.own; (repeat (first | exact List.mem_cons_self | apply List.mem_cons_of_mem)); done) | assumption) (by first | rfl | assumption | exact encOp_37 _ _ | exact encOp_36 _ _ | exact encOp_35 _ _ | exact encOp_0 _ _ | exact encOp_1 _ _ | exact encOp_2 _ _ | exact encDraft_0 _ | exact encDraft_1 _ | exact encDraft_2 _ | simp)) ?_
        refine gr_rd rfl rfl rfl (rd_strNeL rfl rfl) ?_
        refine gr_rd rfl rfl rfl (rd_move rfl) ?_
        refine gr_split rfl (fun hg3 => ?_) (fun hg3 => ?_)
        · skip
          refine gr_rd rfl rfl rfl (rd_fieldAddr Tryd.fa36_1 rfl) ?_
          refine gr_rd rfl rfl rfl (rd_load1 Tryd.to9 rfl (by first | (apply Cells.own; (repeat (first | exact List.mem_cons_self | apply List.mem_cons_of_mem)); done) | assumption) (by first | rfl | assumption | exact encOp_37 _ _ | exact encOp_36 _ _ | exact encOp_35 _ _ | exact encOp_0 _ _ | exact encOp_1 _ _ | exact encOp_2 _ _ | exact encDraft_0 _ | exact encDraft_1 _ | exact encDraft_2 _ | simp)) ?_
          refine gr_rd rfl rfl rfl (rd_lenL Tryd.underlying9 rfl) ?_
          refine gr_rd rfl rfl rfl (rd_leq rfl rfl) ?_
          (first | refine gr_rd rfl rfl rfl (rd_pick_t rfl rfl) ?_ | refine gr_rd rfl rfl rfl (rd_pick_f rfl rfl) ?_)
          refine gr_rd rfl rfl rfl (rd_move rfl) ?_
          refine gr_split rfl (fun hg9 => ?_) (fun hg9 => ?_)
          · skip
            refine gr_rd rfl rfl rfl (rd_fieldAddr Tryd.fa36_2 rfl) ?_
            refine gr_rd rfl rfl rfl (rd_load1 Tryd.to9 rfl (by first | (apply Cells.own; (repeat (first | exact List.mem_cons_self | apply List.mem_cons_of_mem)); done) | assumption) (by first | rfl | assumption | exact encOp_37 _ _ | exact encOp_36 _ _ | exact encOp_35 _ _ | exact encOp_0 _ _ | exact encOp_1 _ _ | exact encOp_2 _ _ | exact encDraft_0 _ | exact encDraft_1 _ | exact encDraft_2 _ | simp)) ?_
            refine gr_rd rfl rfl rfl (rd_lenL Tryd.underlying9 rfl) ?_
            refine gr_rd rfl rfl rfl (rd_leq rfl rfl) ?_
            (first | refine gr_rd rfl rfl rfl (rd_pick_t rfl rfl) ?_ | refine gr_rd rfl rfl rfl (rd_pick_f rfl rfl) ?_)
            refine gr_rd rfl rfl rfl (rd_assign rfl) ?_
            refine gr_nil ?_
            refine gk_then ?_
            refine gc_ret ?_
            refine gk_result (L' := L) (.inl rfl) _ (res1 rfl rfl) (by repeat (first | exact List.Sublist.refl _ | apply List.Sublist.cons_cons | apply List.Sublist.cons | apply List.Sublist.append (List.Sublist.refl _) | refine List.Sublist.trans ?_ (List.sublist_append_right _ _))) (by first | exact Gh.le_refl _ | assumption | exact Gh.le_trans (by assumption) (by assumption)) ?_
            refine ⟨?_, rfl, rfl⟩
            congr 1
            rw [Bool.eq_iff_iff, goodDraft_iff]
            have hzl := zN_le d.ref
            simp only [beq_iff_eq, beq_eq_false_iff_ne, bne_iff_ne, bne_eq_false_iff_eq, Bool.not_eq_true', Bool.not_eq_false', decide_eq_true_iff, decide_eq_false_iff_not, nil_len, zN_iff, ne_eq, Bool.false_eq_true, iff_false, false_iff, not_and, not_or, true_iff, iff_true, Bool.not_not, Decidable.not_not] at * <;> omega
          · skip
            refine gr_no rfl rfl rfl ?_
            refine gr_no rfl rfl rfl ?_
            refine gr_no rfl rfl rfl ?_
            refine gr_no rfl rfl rfl ?_
            (first | refine gr_rd rfl rfl rfl (rd_pick_t rfl rfl) ?_ | refine gr_rd rfl rfl rfl (rd_pick_f rfl rfl) ?_)
            refine gr_rd rfl rfl rfl (rd_assign rfl) ?_
            refine gr_nil ?_
            refine gk_then ?_
            refine gc_ret ?_
            refine gk_result (L' := L) (.inl rfl) _ (res1 rfl rfl) (by repeat (first | exact List.Sublist.refl _ | apply List.Sublist.cons_cons | apply List.Sublist.cons | apply List.Sublist.append (List.Sublist.refl _) | refine List.Sublist.trans ?_ (List.sublist_append_right _ _))) (by first | exact Gh.le_refl _ | assumption | exact Gh.le_trans (by assumption) (by assumption)) ?_
            refine ⟨?_, rfl, rfl⟩
            congr 1
            rw [Bool.eq_iff_iff, goodDraft_iff]
            have hzl := zN_le d.ref
            simp only [beq_iff_eq, beq_eq_false_iff_ne, bne_iff_ne, bne_eq_false_iff_eq, Bool.not_eq_true', Bool.not_eq_false', decide_eq_true_iff, decide_eq_false_iff_not, nil_len, zN_iff, ne_eq, Bool.false_eq_true, iff_false, false_iff, not_and, not_or, true_iff, iff_true, Bool.not_not, Decidable.not_not] at * <;> omega
        · skip
          refine gr_no rfl rfl rfl ?_
          refine gr_no rfl rfl rfl ?_
          refine gr_no rfl rfl rfl ?_
          refine gr_no rfl rfl rfl ?_
          (first | refine gr_rd rfl rfl rfl (rd_pick_t rfl rfl) ?_ | refine gr_rd rfl rfl rfl (rd_pick_f rfl rfl) ?_)
          refine gr_rd rfl rfl rfl (rd_move rfl) ?_
          refine gr_no rfl rfl rfl ?_
          refine gr_no rfl rfl rfl ?_
          refine gr_no rfl rfl rfl ?_
          refine gr_no rfl rfl rfl ?_
          (first | refine gr_rd rfl rfl rfl (rd_pick_t rfl rfl) ?_ | refine gr_rd rfl rfl rfl (rd_pick_f rfl rfl) ?_)
          refine gr_rd rfl rfl rfl (rd_assign rfl) ?_
          refine gr_nil ?_
          refine gk_then ?_
          refine gc_ret ?_
          refine gk_result (L' := L) (.inl rfl) _ (res1 rfl rfl) (by repeat (first | exact List.Sublist.refl _ | apply List.Sublist.cons_cons | apply List.Sublist.cons | apply List.Sublist.append (List.Sublist.refl _) | refine List.Sublist.trans ?_ (List.sublist_append_right _ _))) (by first | exact Gh.le_refl _ | assumption | exact Gh.le_trans (by assumption) (by assumption)) ?_
          refine ⟨?_, rfl, rfl⟩
          congr 1
          rw [Bool.eq_iff_iff, goodDraft_iff]
          have hzl := zN_le d.ref
          simp only [beq_iff_eq, beq_eq_false_iff_ne, bne_iff_ne, bne_eq_false_iff_eq, Bool.not_eq_true', Bool.not_eq_false', decide_eq_true_iff, decide_eq_false_iff_not, nil_len, zN_iff, ne_eq, Bool.false_eq_true, iff_false, false_iff, not_and, not_or, true_iff, iff_true, Bool.not_not, Decidable.not_not] at * <;> omega
    · skip
      refine gc_seq ?_
      refine gc_seqr [(.mv, 0), (.mv, 1)] rfl ?_
      refine gr_rd rfl rfl rfl (rd_eql rfl rfl) ?_
      refine gr_rd rfl rfl rfl (rd_assign rfl) ?_
      refine gr_nil ?_
      refine gk_then ?_
      refine gc_cond rfl (fun hc3 => ?_) (fun hc3 => ?_)
      · skip
        refine gc_skip ?_
        refine gk_inBlock ?_
        refine gk_then ?_
        refine gc_seq ?_
        refine gc_seqr [(.mv, 0), (.mv, 1), (.mv, 2), (.mv, 3), (.mv, 4), (.mv, 5), (.mv, 6), (.mv, 7), (.mv, 8), (.mv, 9), (.mv, 10), (.mv, 11), (.mv, 12), (.mv, 13), (.mv, 14), (.mv, 15)] rfl ?_
        refine gr_rd rfl rfl rfl (rd_fieldAddr Tryd.fa36_1 rfl) ?_
        refine gr_rd rfl rfl rfl (rd_load1 Tryd.to9 rfl (by first | (apply Cells.own; (repeat (first | exact List.mem_cons_self | apply List.mem_cons_of_mem)); done) | assumption) (by first | rfl | assumption | exact encOp_37 _ _ | exact encOp_36 _ _ | exact encOp_35 _ _ | exact encOp_0 _ _ | exact encOp_1 _ _ | exact encOp_2 _ _ | exact encDraft_0 _ | exact encDraft_1 _ | exact encDraft_2 _ | simp)) ?_
        refine gr_rd rfl rfl rfl (rd_strNeL rfl rfl) ?_
        refine gr_rd rfl rfl rfl (rd_move rfl) ?_
        refine gr_split rfl (fun hg3 => ?_) (fun hg3 => ?_)
        · skip
          refine gr_rd rfl rfl rfl (rd_fieldAddr Tryd.fa36_1 rfl) ?_
          refine gr_rd rfl rfl rfl (rd_load1 Tryd.to9 rfl (by first | (apply Cells.own; (repeat (first | exact List.mem_cons_self | apply List.mem_cons_of_mem)); done) | assumption) (by first | rfl | assumption | exact encOp_37 _ _ | exact encOp_36 _ _ | exact encOp_35 _ _ | exact encOp_0 _ _ | exact encOp_1 _ _ | exact encOp_2 _ _ | exact encDraft_0 _ | exact encDraft_1 _ | exact encDraft_2 _ | simp)) ?_
          refine gr_rd rfl rfl rfl (rd_lenL Tryd.underlying9 rfl) ?_
          refine gr_rd rfl rfl rfl (rd_leq rfl rfl) ?_
          (first | refine gr_rd rfl rfl rfl (rd_pick_t rfl rfl) ?_ | refine gr_rd rfl rfl rfl (rd_pick_f rfl rfl) ?_)
          refine gr_rd rfl rfl rfl (rd_move rfl) ?_
          refine gr_split rfl (fun hg9 => ?_) (fun hg9 => ?_)
          · skip
            refine gr_rd rfl rfl rfl (rd_fieldAddr Tryd.fa36_2 rfl) ?_
            refine gr_rd rfl rfl rfl (rd_load1 Tryd.to9 rfl (by first | (apply Cells.own; (repeat (first | exact List.mem_cons_self | apply List.mem_cons_of_mem)); done) | assumption) (by first | rfl | assumption | exact encOp_37 _ _ | exact encOp_36 _ _ | exact encOp_35 _ _ | exact encOp_0 _ _ | exact encOp_1 _ _ | exact encOp_2 _ _ | exact encDraft_0 _ | exact encDraft_1 _ | exact encDraft_2 _ | simp)) ?_
            refine gr_rd rfl rfl rfl (rd_lenL Tryd.underlying9 rfl) ?_
            refine gr_rd rfl rfl rfl (rd_leq rfl rfl) ?_
            (first | refine gr_rd rfl rfl rfl (rd_pick_t rfl rfl) ?_ | refine gr_rd rfl rfl rfl (rd_pick_f rfl rfl) ?_)
            refine gr_rd rfl rfl rfl (rd_assign rfl) ?_
            refine gr_nil ?_
            refine gk_then ?_
            refine gc_ret ?_
            refine gk_result (L' := L) (.inl rfl) _ (res1 rfl rfl) (by repeat (first | exact List.Sublist.refl _ | apply List.Sublist.cons_cons | apply List.Sublist.cons | apply List.Sublist.append (List.Sublist.refl _) | refine List.Sublist.trans ?_ (List.sublist_append_right _ _))) (by first | exact Gh.le_refl _ | assumption | exact Gh.le_trans (by assumption) (by assumption)) ?_
            refine ⟨?_, rfl, rfl⟩
            congr 1
            rw [Bool.eq_iff_iff, goodDraft_iff]
            have hzl := zN_le d.ref
            simp only [beq_iff_eq, beq_eq_false_iff_ne, bne_iff_ne, bne_eq_false_iff_eq, Bool.not_eq_true', Bool.not_eq_false', decide_eq_true_iff, decide_eq_false_iff_not, nil_len, zN_iff, ne_eq, Bool.false_eq_true, iff_false, false_iff, not_and, not_or, true_iff, iff_true, Bool.not_not, Decidable.not_not] at * <;> omega
          · skip
            refine gr_no rfl rfl rfl ?_
            refine gr_no rfl rfl rfl ?_
            refine gr_no rfl rfl rfl ?_
            refine gr_no rfl rfl rfl ?_
            (first | refine gr_rd rfl rfl rfl (rd_pick_t rfl rfl) ?_ | refine gr_rd rfl rfl rfl (rd_pick_f rfl rfl) ?_)
            refine gr_rd rfl rfl rfl (rd_assign rfl) ?_
            refine gr_nil ?_
            refine gk_then ?_
            refine gc_ret ?_
            refine gk_result (L' := L) (.inl rfl) _ (res1 rfl rfl) (by repeat (first | exact List.Sublist.refl _ | apply List.Sublist.cons_cons | apply List.Sublist.cons | apply List.Sublist.append (List.Sublist.refl _) | refine List.Sublist.trans ?_ (List.sublist_append_right _ _))) (by first | exact Gh.le_refl _ | assumption | exact Gh.le_trans (by assumption) (by assumption)) ?_
            refine ⟨?_, rfl, rfl⟩
            congr 1
            rw [Bool.eq_iff_iff, goodDraft_iff]
            have hzl := zN_le d.ref
            simp only [beq_iff_eq, beq_eq_false_iff_ne, bne_iff_ne, bne_eq_false_iff_eq, Bool.not_eq_true', Bool.not_eq_false', decide_eq_true_iff, decide_eq_false_iff_not, nil_len, zN_iff, ne_eq, Bool.false_eq_true, iff_false, false_iff, not_and, not_or, true_iff, iff_true, Bool.not_not, Decidable.not_not] at * <;> omega
        · skip
          refine gr_no rfl rfl rfl ?_
          refine gr_no rfl rfl rfl ?_
          refine gr_no rfl rfl rfl ?_
          refine gr_no rfl rfl rfl ?_
          (first | refine gr_rd rfl rfl rfl (rd_pick_t rfl rfl) ?_ | refine gr_rd rfl rfl rfl (rd_pick_f rfl rfl) ?_)
          refine gr_rd rfl rfl rfl (rd_move rfl) ?_
          refine gr_no rfl rfl rfl ?_
          refine gr_no rfl rfl rfl ?_
          refine gr_no rfl rfl rfl ?_
          refine gr_no rfl rfl rfl ?_
          (first | refine gr_rd rfl rfl rfl (rd_pick_t rfl rfl) ?_ | refine gr_rd rfl rfl rfl (rd_pick_f rfl rfl) ?_)
          refine gr_rd rfl rfl rfl (rd_assign rfl) ?_
          refine gr_nil ?_
          refine gk_then ?_
          refine gc_ret ?_
          refine gk_result (L' := L) (.inl rfl) _ (res1 rfl rfl) (by repeat (first | exact List.Sublist.refl _ | apply List.Sublist.cons_cons | apply List.Sublist.cons | apply List.Sublist.append (List.Sublist.refl _) | refine List.Sublist.trans ?_ (List.sublist_append_right _ _))) (by first | exact Gh.le_refl _ | assumption | exact Gh.le_trans (by assumption) (by assumption)) ?_
          refine ⟨?_, rfl, rfl⟩
          congr 1
          rw [Bool.eq_iff_iff, goodDraft_iff]
          have hzl := zN_le d.ref
          simp only [beq_iff_eq, beq_eq_false_iff_ne, bne_iff_ne, bne_eq_false_iff_eq, Bool.not_eq_true', Bool.not_eq_false', decide_eq_true_iff, decide_eq_false_iff_not, nil_len, zN_iff, ne_eq, Bool.false_eq_true, iff_false, false_iff, not_and, not_or, true_iff, iff_true, Bool.not_not, Decidable.not_not] at * <;> omega
      · skip
        refine gc_seq ?_
        refine gc_seqr [(.mv, 0), (.mv, 1)] rfl ?_
        refine gr_rd rfl rfl rfl (rd_eql rfl rfl) ?_
        refine gr_rd rfl rfl rfl (rd_assign rfl) ?_
        refine gr_nil ?_
        refine gk_then ?_
        refine gc_cond rfl (fun hc4 => ?_) (fun hc4 => ?_)
        · skip
          refine gc_seq ?_
          refine gc_seqr [(.mv, 0), (.mv, 1), (.mv, 2), (.mv, 3), (.mv, 4), (.mv, 5), (.mv, 6)] rfl ?_
          refine gr_rd rfl rfl rfl (rd_move rfl) ?_
          refine gr_rd rfl rfl rfl (rd_not rfl) ?_
          refine gr_rd rfl rfl rfl (rd_move rfl) ?_
          refine gr_split rfl (fun hg2 => ?_) (fun hg2 => ?_)
          · skip
            refine gr_no rfl rfl rfl ?_
            refine gr_no rfl rfl rfl ?_
            refine gr_no rfl rfl rfl ?_
            (first | refine gr_rd rfl rfl rfl (rd_pick_t rfl rfl) ?_ | refine gr_rd rfl rfl rfl (rd_pick_f rfl rfl) ?_)
            refine gr_nil ?_
            refine gk_then ?_
            refine gc_yes rfl ?_
            refine gc_seq ?_
            refine gc_seqr [(.mv, 0)] rfl ?_
            refine gr_rd rfl rfl rfl (rd_assign rfl) ?_
            refine gr_nil ?_
            refine gk_then ?_
            refine gc_ret ?_
            refine gk_ret_inBlock ?_
            refine gk_ret_then ?_
            refine gk_result (L' := L) (.inl rfl) _ (res1 rfl rfl) (by repeat (first | exact List.Sublist.refl _ | apply List.Sublist.cons_cons | apply List.Sublist.cons | apply List.Sublist.append (List.Sublist.refl _) | refine List.Sublist.trans ?_ (List.sublist_append_right _ _))) (by first | exact Gh.le_refl _ | assumption | exact Gh.le_trans (by assumption) (by assumption)) ?_
            refine ⟨?_, rfl, rfl⟩
            congr 1
            rw [Bool.eq_iff_iff, goodDraft_iff]
            have hzl := zN_le d.ref
            simp only [beq_iff_eq, beq_eq_false_iff_ne, bne_iff_ne, bne_eq_false_iff_eq, Bool.not_eq_true', Bool.not_eq_false', decide_eq_true_iff, decide_eq_false_iff_not, nil_len, zN_iff, ne_eq, Bool.false_eq_true, iff_false, false_iff, not_and, not_or, true_iff, iff_true, Bool.not_not, Decidable.not_not] at * <;> omega
          · skip
            refine gr_rd rfl rfl rfl (rd_fieldAddr Tryd.fa36_2 rfl) ?_
            refine gr_rd rfl rfl rfl (rd_load1 Tryd.to9 rfl (by first | (apply Cells.own; (repeat (first | exact List.mem_cons_self | apply List.mem_cons_of_mem)); done) | assumption) (by first | rfl | assumption | exact encOp_37 _ _ | exact encOp_36 _ _ | exact encOp_35 _ _ | exact encOp_0 _ _ | exact encOp_1 _ _ | exact encOp_2 _ _ | exact encDraft_0 _ | exact encDraft_1 _ | exact encDraft_2 _ | simp)) ?_
            refine gr_rd rfl rfl rfl (rd_strNeL rfl rfl) ?_
            (first | refine gr_rd rfl rfl rfl (rd_pick_t rfl rfl) ?_ | refine gr_rd rfl rfl rfl (rd_pick_f rfl rfl) ?_)
            refine gr_nil ?_
            refine gk_then ?_
            refine gc_cond rfl (fun hc5 => ?_) (fun hc5 => ?_)
            · skip
              refine gc_seq ?_
              refine gc_seqr [(.mv, 0)] rfl ?_
              refine gr_rd rfl rfl rfl (rd_assign rfl) ?_
              refine gr_nil ?_
              refine gk_then ?_
              refine gc_ret ?_
              refine gk_ret_inBlock ?_
              refine gk_ret_then ?_
              refine gk_result (L' := L) (.inl rfl) _ (res1 rfl rfl) (by repeat (first | exact List.Sublist.refl _ | apply List.Sublist.cons_cons | apply List.Sublist.cons | apply List.Sublist.append (List.Sublist.refl _) | refine List.Sublist.trans ?_ (List.sublist_append_right _ _))) (by first | exact Gh.le_refl _ | assumption | exact Gh.le_trans (by assumption) (by assumption)) ?_
              refine ⟨?_, rfl, rfl⟩
              congr 1
              rw [Bool.eq_iff_iff, goodDraft_iff]
              have hzl := zN_le d.ref
              simp only [beq_iff_eq, beq_eq_false_iff_ne, bne_iff_ne, bne_eq_false_iff_eq, Bool.not_eq_true', Bool.not_eq_false', decide_eq_true_iff, decide_eq_false_iff_not, nil_len, zN_iff, ne_eq, Bool.false_eq_true, iff_false, false_iff, not_and, not_or, true_iff, iff_true, Bool.not_not, Decidable.not_not] at * <;> omega
            · skip
              refine gc_skip ?_
              refine gk_inBlock ?_
              refine gk_then ?_
              refine gc_seq ?_
              refine gc_seqr [(.mv, 0), (.mv, 1), (.mv, 2), (.mv, 3), (.mv, 4), (.mv, 5), (.mv, 6), (.mv, 7), (.mv, 8), (.mv, 9), (.mv, 10), (.mv, 11), (.mv, 12), (.mv, 13), (.mv, 14), (.mv, 15)] rfl ?_
              refine gr_rd rfl rfl rfl (rd_fieldAddr Tryd.fa36_1 rfl) ?_
              refine gr_rd rfl rfl rfl (rd_load1 Tryd.to9 rfl (by first | (apply Cells.own; (repeat (first | exact List.mem_cons_self | apply List.mem_cons_of_mem)); done) | assumption) (by first | rfl | assumption | exact encOp_37 _ _ | exact encOp_36 _ _ | exact encOp_35 _ _ | exact encOp_0 _ _ | exact encOp_1 _ _ | exact encOp_2 _ _ | exact encDraft_0 _ | exact encDraft_1 _ | exact encDraft_2 _ | simp)) ?_
              refine gr_rd rfl rfl rfl (rd_strNeL rfl rfl) ?_
              refine gr_rd rfl rfl rfl (rd_move rfl) ?_
              refine gr_split rfl (fun hg3 => ?_) (fun hg3 => ?_)
              · skip
                refine gr_rd rfl rfl rfl (rd_fieldAddr Tryd.fa36_1 rfl) ?_
                refine gr_rd rfl rfl rfl (rd_load1 Tryd.to9 rfl (by first | (apply Cells.own; (repeat (first | exact List.mem_cons_self | apply List.mem_cons_of_mem)); done) | assumption) (by first | rfl | assumption | exact encOp_37 _ _ | exact encOp_36 _ _ | exact encOp_35 _ _ | exact encOp_0 _ _ | exact encOp_1 _ _ | exact encOp_2 _ _ | exact encDraft_0 _ | exact encDraft_1 _ | exact encDraft_2 _ | simp)) ?_
                refine gr_rd rfl rfl rfl (rd_lenL Tryd.underlying9 rfl) ?_
                refine gr_rd rfl rfl rfl (rd_leq rfl rfl) ?_
                (first | refine gr_rd rfl rfl rfl (rd_pick_t rfl rfl) ?_ | refine gr_rd rfl rfl rfl (rd_pick_f rfl rfl) ?_)
                refine gr_rd rfl rfl rfl (rd_move rfl) ?_
                refine gr_split rfl (fun hg9 => ?_) (fun hg9 => ?_)
                · skip
                  refine gr_rd rfl rfl rfl (rd_fieldAddr Tryd.fa36_2 rfl) ?_
                  refine gr_rd rfl rfl rfl (rd_load1 Tryd.to9 rfl (by first | (apply Cells.own; (repeat (first | exact List.mem_cons_self | apply List.mem_cons_of_mem)); done) | assumption) (by first | rfl | assumption | exact encOp_37 _ _ | exact encOp_36 _ _ | exact encOp_35 _ _ | exact encOp_0 _ _ | exact encOp_1 _ _ | exact encOp_2 _ _ | exact encDraft_0 _ | exact encDraft_1 _ | exact encDraft_2 _ | simp)) ?_
                  refine gr_rd rfl rfl rfl (rd_lenL Tryd.underlying9 rfl) ?_
                  refine gr_rd rfl rfl rfl (rd_leq rfl rfl) ?_
                  (first | refine gr_rd rfl rfl rfl (rd_pick_t rfl rfl) ?_ | refine gr_rd rfl rfl rfl (rd_pick_f rfl rfl) ?_)
                  refine gr_rd rfl rfl rfl (rd_assign rfl) ?_
                  refine gr_nil ?_
                  refine gk_then ?_
                  refine gc_ret ?_
                  refine gk_result (L' := L) (.inl rfl) _ (res1 rfl rfl) (by repeat (first | exact List.Sublist.refl _ | apply List.Sublist.cons_cons | apply List.Sublist.cons | apply List.Sublist.append (List.Sublist.refl _) | refine List.Sublist.trans ?_ (List.sublist_append_right _ _))) (by first | exact Gh.le_refl _ | assumption | exact Gh.le_trans (by assumption) (by assumption)) ?_
                  refine ⟨?_, rfl, rfl⟩
                  congr 1
                  rw [Bool.eq_iff_iff, goodDraft_iff]
                  have hzl := zN_le d.ref
                  simp only [beq_iff_eq, beq_eq_false_iff_ne, bne_iff_ne, bne_eq_false_iff_eq, Bool.not_eq_true', Bool.not_eq_false', decide_eq_true_iff, decide_eq_false_iff_not, nil_len, zN_iff, ne_eq, Bool.false_eq_true, iff_false, false_iff, not_and, not_or, true_iff, iff_true, Bool.not_not, Decidable.not_not] at * <;> omega
                · skip
                  refine gr_no rfl rfl rfl ?_
                  refine gr_no rfl rfl rfl ?_
                  refine gr_no rfl rfl rfl ?_
                  refine gr_no rfl rfl rfl ?_
                  (first | refine gr_rd rfl rfl rfl (rd_pick_t rfl rfl) ?_ | refine gr_rd rfl rfl rfl (rd_pick_f rfl rfl) ?_)
                  refine gr_rd rfl rfl rfl (rd_assign rfl) ?_
                  refine gr_nil ?_
                  refine gk_then ?_
                  refine gc_ret ?_
                  refine gk_result (L' := L) (.inl rfl) _ (res1 rfl rfl) (by repeat (first | exact List.Sublist.refl _ | apply List.Sublist.cons_cons | apply List.Sublist.cons | apply List.Sublist.append (List.Sublist.refl _) | refine List.Sublist.trans ?_ (List.sublist_append_right _ _))) (by first | exact Gh.le_refl _ | assumption | exact Gh.le_trans (by assumption) (by assumption)) ?_
                  refine ⟨?_, rfl, rfl⟩
                  congr 1
                  rw [Bool.eq_iff_iff, goodDraft_iff]
                  have hzl := zN_le d.ref
                  simp only [beq_iff_eq, beq_eq_false_iff_ne, bne_iff_ne, bne_eq_false_iff_eq, Bool.not_eq_true', Bool.not_eq_false', decide_eq_true_iff, decide_eq_false_iff_not, nil_len, zN_iff, ne_eq, Bool.false_eq_true, iff_false, false_iff, not_and, not_or, true_iff, iff_true, Bool.not_not, Decidable.not_not] at * <;> omega
              · skip
                refine gr_no rfl rfl rfl ?_
                refine gr_no rfl rfl rfl ?_
                refine gr_no rfl rfl rfl ?_
                refine gr_no rfl rfl rfl ?_
                (first | refine gr_rd rfl rfl rfl (rd_pick_t rfl rfl) ?_ | refine gr_rd rfl rfl rfl (rd_pick_f rfl rfl) ?_)
                refine gr_rd rfl rfl rfl (rd_move rfl) ?_
                refine gr_no rfl rfl rfl ?_
                refine gr_no rfl rfl rfl ?_
                refine gr_no rfl rfl rfl ?_
                refine gr_no rfl rfl rfl ?_
                (first | refine gr_rd rfl rfl rfl (rd_pick_t rfl rfl) ?_ | refine gr_rd rfl rfl rfl (rd_pick_f rfl rfl) ?_)
                refine gr_rd rfl rfl rfl (rd_assign rfl) ?_
                refine gr_nil ?_
                refine gk_then ?_
                refine gc_ret ?_
                refine gk_result (L' := L) (.inl rfl) _ (res1 rfl rfl) (by repeat (first | exact List.Sublist.refl _ | apply List.Sublist.cons_cons | apply List.Sublist.cons | apply List.Sublist.append (List.Sublist.refl _) | refine List.Sublist.trans ?_ (List.sublist_append_right _ _))) (by first | exact Gh.le_refl _ | assumption | exact Gh.le_trans (by assumption) (by assumption)) ?_
                refine ⟨?_, rfl, rfl⟩
                congr 1
                rw [Bool.eq_iff_iff, goodDraft_iff]
                have hzl := zN_le d.ref
                simp only [beq_iff_eq, beq_eq_false_iff_ne, bne_iff_ne, bne_eq_false_iff_eq, Bool.not_eq_true', Bool.not_eq_false', decide_eq_true_iff, decide_eq_false_iff_not, nil_len, zN_iff, ne_eq, Bool.false_eq_true, iff_false, false_iff, not_and, not_or, true_iff, iff_true, Bool.not_not, Decidable.not_not] at * <;> omega
        · skip
          refine gc_seq ?_
          refine gc_seqr [(.mv, 0)] rfl ?_
          refine gr_rd rfl rfl rfl (rd_assign rfl) ?_
          refine gr_nil ?_
          refine gk_then ?_
          refine gc_ret ?_
          refine gk_ret_inBlock ?_
          refine gk_ret_then ?_
          refine gk_result (L' := L) (.inl rfl) _ (res1 rfl rfl) (by repeat (first | exact List.Sublist.refl _ | apply List.Sublist.cons_cons | apply List.Sublist.cons | apply List.Sublist.append (List.Sublist.refl _) | refine List.Sublist.trans ?_ (List.sublist_append_right _ _))) (by first | exact Gh.le_refl _ | assumption | exact Gh.le_trans (by assumption) (by assumption)) ?_
          refine ⟨?_, rfl, rfl⟩
          congr 1
          rw [Bool.eq_iff_iff, goodDraft_iff]
          have hzl := zN_le d.ref
          simp only [beq_iff_eq, beq_eq_false_iff_ne, bne_iff_ne, bne_eq_false_iff_eq, Bool.not_eq_true', Bool.not_eq_false', decide_eq_true_iff, decide_eq_false_iff_not, nil_len, zN_iff, ne_eq, Bool.false_eq_true, iff_false, false_iff, not_and, not_or, true_iff, iff_true, Bool.not_not, Decidable.not_not] at * <;> omega
  · skip
    refine gc_seq ?_
    refine gc_seqr [(.mv, 0), (.mv, 1)] rfl ?_
    refine gr_rd rfl rfl rfl (rd_eql rfl rfl) ?_
    refine gr_rd rfl rfl rfl (rd_assign rfl) ?_
    refine gr_nil ?_
    refine gk_then ?_
    refine gc_cond rfl (fun hc6 => ?_) (fun hc6 => ?_)
    · skip
      refine gc_skip ?_
      refine gk_then ?_
      refine gc_cond rfl (fun hc7 => ?_) (fun hc7 => ?_)
      · skip
        refine gc_seq ?_
        refine gc_seqr [(.mv, 0)] rfl ?_
        refine gr_rd rfl rfl rfl (rd_move rfl) ?_
        refine gr_nil ?_
        refine gk_then ?_
        refine gc_cond rfl (fun hc8 => ?_) (fun hc8 => ?_)
        · skip
          refine gc_seq ?_
          refine gc_seqr [(.mv, 0)] rfl ?_
          refine gr_rd rfl rfl rfl (rd_assign rfl) ?_
          refine gr_nil ?_
          refine gk_then ?_
          refine gc_ret ?_
          refine gk_ret_inBlock ?_
          refine gk_ret_then ?_
          refine gk_result (L' := L) (.inl rfl) _ (res1 rfl rfl) (by repeat (first | exact List.Sublist.refl _ | apply List.Sublist.cons_cons | apply List.Sublist.cons | apply List.Sublist.append (List.Sublist.refl _) | refine List.Sublist.trans ?_ (List.sublist_append_right _ _))) (by first | exact Gh.le_refl _ | assumption | exact Gh.le_trans (by assumption) (by assumption)) ?_
          refine ⟨?_, rfl, rfl⟩
          congr 1
          rw [Bool.eq_iff_iff, goodDraft_iff]
          have hzl := zN_le d.ref
          simp only [beq_iff_eq, beq_eq_false_iff_ne, bne_iff_ne, bne_eq_false_iff_eq, Bool.not_eq_true', Bool.not_eq_false', decide_eq_true_iff, decide_eq_false_iff_not, nil_len, zN_iff, ne_eq, Bool.false_eq_true, iff_false, false_iff, not_and, not_or, true_iff, iff_true, Bool.not_not, Decidable.not_not] at * <;> omega
        · skip
          refine gc_skip ?_
          refine gk_inBlock ?_
          refine gk_then ?_
          refine gc_seq ?_
          refine gc_seqr [(.mv, 0), (.mv, 1), (.mv, 2), (.mv, 3), (.mv, 4), (.mv, 5), (.mv, 6), (.mv, 7), (.mv, 8), (.mv, 9), (.mv, 10), (.mv, 11), (.mv, 12), (.mv, 13), (.mv, 14), (.mv, 15)] rfl ?_
          refine gr_rd rfl rfl rfl (rd_fieldAddr Tryd.fa36_1 rfl) ?_
          refine gr_rd rfl rfl rfl (rd_load1 Tryd.to9 rfl (by first | (apply Cells.own; (repeat (first | exact List.mem_cons_self | apply List.mem_cons_of_mem)); done) | assumption) (by first | rfl | assumption | exact encOp_37 _ _ | exact encOp_36 _ _ | exact encOp_35 _ _ | exact encOp_0 _ _ | exact encOp_1 _ _ | exact encOp_2 _ _ | exact encDraft_0 _ | exact encDraft_1 _ | exact encDraft_2 _ | simp)) ?_
          refine gr_rd rfl rfl rfl (rd_strNeL rfl rfl) ?_
          refine gr_rd rfl rfl rfl (rd_move rfl) ?_
          refine gr_split rfl (fun hg3 => ?_) (fun hg3 => ?_)
          · skip
            refine gr_rd rfl rfl rfl (rd_fieldAddr Tryd.fa36_1 rfl) ?_
            refine gr_rd rfl rfl rfl (rd_load1 Tryd.to9 rfl (by first | (apply Cells.own; (repeat (first | exact List.mem_cons_self | apply List.mem_cons_of_mem)); done) | assumption) (by first | rfl | assumption | exact encOp_37 _ _ | exact encOp_36 _ _ | exact encOp_35 _ _ | exact encOp_0 _ _ | exact encOp_1 _ _ | exact encOp_2 _ _ | exact encDraft_0 _ | exact encDraft_1 _ | exact encDraft_2 _ | simp)) ?_
            refine gr_rd rfl rfl rfl (rd_lenL Tryd.underlying9 rfl) ?_
            refine gr_rd rfl rfl rfl (rd_leq rfl rfl) ?_
            (first | refine gr_rd rfl rfl rfl (rd_pick_t rfl rfl) ?_ | refine gr_rd rfl rfl rfl (rd_pick_f rfl rfl) ?_)
            refine gr_rd rfl rfl rfl (rd_move rfl) ?_
            refine gr_split rfl (fun hg9 => ?_) (fun hg9 => ?_)
            · skip
              refine gr_rd rfl rfl rfl (rd_fieldAddr Tryd.fa36_2 rfl) ?_
              refine gr_rd rfl rfl rfl (rd_load1 Tryd.to9 rfl (by first | (apply Cells.own; (repeat (first | exact List.mem_cons_self | apply List.mem_cons_of_mem)); done) | assumption) (by first | rfl | assumption | exact encOp_37 _ _ | exact encOp_36 _ _ | exact encOp_35 _ _ | exact encOp_0 _ _ | exact encOp_1 _ _ | exact encOp_2 _ _ | exact encDraft_0 _ | exact encDraft_1 _ | exact encDraft_2 _ | simp)) ?_
              refine gr_rd rfl rfl rfl (rd_lenL Tryd.underlying9 rfl) ?_
              refine gr_rd rfl rfl rfl (rd_leq rfl rfl) ?_
              (first | refine gr_rd rfl rfl rfl (rd_pick_t rfl rfl) ?_ | refine gr_rd rfl rfl rfl (rd_pick_f rfl rfl) ?_)
              refine gr_rd rfl rfl rfl (rd_assign rfl) ?_
              refine gr_nil ?_
              refine gk_then ?_
              refine gc_ret ?_
              refine gk_result (L' := L) (.inl rfl) _ (res1 rfl rfl) (by repeat (first | exact List.Sublist.refl _ | apply List.Sublist.cons_cons | apply List.Sublist.cons | apply List.Sublist.append (List.Sublist.refl _) | refine List.Sublist.trans ?_ (List.sublist_append_right _ _))) (by first | exact Gh.le_refl _ | assumption | exact Gh.le_trans (by assumption) (by assumption)) ?_
              refine ⟨?_, rfl, rfl⟩
              congr 1
              rw [Bool.eq_iff_iff, goodDraft_iff]
              have hzl := zN_le d.ref
              simp only [beq_iff_eq, beq_eq_false_iff_ne, bne_iff_ne, bne_eq_false_iff_eq, Bool.not_eq_true', Bool.not_eq_false', decide_eq_true_iff, decide_eq_false_iff_not, nil_len, zN_iff, ne_eq, Bool.false_eq_true, iff_false, false_iff, not_and, not_or, true_iff, iff_true, Bool.not_not, Decidable.not_not] at * <;> omega
            · skip
              refine gr_no rfl rfl rfl ?_
              refine gr_no rfl rfl rfl ?_
              refine gr_no rfl rfl rfl ?_
              refine gr_no rfl rfl rfl ?_
              (first | refine gr_rd rfl rfl rfl (rd_pick_t rfl rfl) ?_ | refine gr_rd rfl rfl rfl (rd_pick_f rfl rfl) ?_)
              refine gr_rd rfl rfl rfl (rd_assign rfl) ?_
              refine gr_nil ?_
              refine gk_then ?_
              refine gc_ret ?_
              refine gk_result (L' := L) (.inl rfl) _ (res1 rfl rfl) (by repeat (first | exact List.Sublist.refl _ | apply List.Sublist.cons_cons | apply List.Sublist.cons | apply List.Sublist.append (List.Sublist.refl _) | refine List.Sublist.trans ?_ (List.sublist_append_right _ _))) (by first | exact Gh.le_refl _ | assumption | exact Gh.le_trans (by assumption) (by assumption)) ?_
              refine ⟨?_, rfl, rfl⟩
              congr 1
              rw [Bool.eq_iff_iff, goodDraft_iff]
              have hzl := zN_le d.ref
              simp only [beq_iff_eq, beq_eq_false_iff_ne, bne_iff_ne, bne_eq_false_iff_eq, Bool.not_eq_true', Bool.not_eq_false', decide_eq_true_iff, decide_eq_false_iff_not, nil_len, zN_iff, ne_eq, Bool.false_eq_true, iff_false, false_iff, not_and, not_or, true_iff, iff_true, Bool.not_not, Decidable.not_not] at * <;> omega
          · skip
            refine gr_no rfl rfl rfl ?_
            refine gr_no rfl rfl rfl ?_
            refine gr_no rfl rfl rfl ?_
            refine gr_no rfl rfl rfl ?_
            (first | refine gr_rd rfl rfl rfl (rd_pick_t rfl rfl) ?_ | refine gr_rd rfl rfl rfl (rd_pick_f rfl rfl) ?_)
            refine gr_rd rfl rfl rfl (rd_move rfl) ?_
            refine gr_no rfl rfl rfl ?_
            refine gr_no rfl rfl rfl ?_
            refine gr_no rfl rfl rfl ?_
            refine gr_no rfl rfl rfl ?_
            (first | refine gr_rd rfl rfl rfl (rd_pick_t rfl rfl) ?_ | refine gr_rd rfl rfl rfl (rd_pick_f rfl rfl) ?_)
            refine gr_rd rfl rfl rfl (rd_assign rfl) ?_
            refine gr_nil ?_
            refine gk_then ?_
            refine gc_ret ?_
            refine gk_result (L' := L) (.inl rfl) _ (res1 rfl rfl) (by repeat (first | exact List.Sublist.refl _ | apply List.Sublist.cons_cons | apply List.Sublist.cons | apply List.Sublist.append (List.Sublist.refl _) | refine List.Sublist.trans ?_ (List.sublist_append_right _ _))) (by first | exact Gh.le_refl _ | assumption | exact Gh.le_trans (by assumption) (by assumption)) ?_
            refine ⟨?_, rfl, rfl⟩
            congr 1
            rw [Bool.eq_iff_iff, goodDraft_iff]
            have hzl := zN_le d.ref
            simp only [beq_iff_eq, beq_eq_false_iff_ne, bne_iff_ne, bne_eq_false_iff_eq, Bool.not_eq_true', Bool.not_eq_false', decide_eq_true_iff, decide_eq_false_iff_not, nil_len, zN_iff, ne_eq, Bool.false_eq_true, iff_false, false_iff, not_and, not_or, true_iff, iff_true, Bool.not_not, Decidable.not_not] at * <;> omega
      · skip
        refine gc_seq ?_
        refine gc_seqr [(.mv, 0), (.mv, 1)] rfl ?_
        refine gr_rd rfl rfl rfl (rd_eql rfl rfl) ?_
        refine gr_rd rfl rfl rfl (rd_assign rfl) ?_
        refine gr_nil ?_
        refine gk_then ?_
        refine gc_cond rfl (fun hc9 => ?_) (fun hc9 => ?_)
        · skip
          refine gc_skip ?_
          refine gk_inBlock ?_
          refine gk_then ?_
          refine gc_seq ?_
          refine gc_seqr [(.mv, 0), (.mv, 1), (.mv, 2), (.mv, 3), (.mv, 4), (.mv, 5), (.mv, 6), (.mv, 7), (.mv, 8), (.mv, 9), (.mv, 10), (.mv, 11), (.mv, 12), (.mv, 13), (.mv, 14), (.mv, 15)] rfl ?_
          refine gr_rd rfl rfl rfl (rd_fieldAddr Tryd.fa36_1 rfl) ?_
          refine gr_rd rfl rfl rfl (rd_load1 Tryd.to9 rfl (by first | (apply Cells.own; (repeat (first | exact List.mem_cons_self | apply List.mem_cons_of_mem)); done) | assumption) (by first | rfl | assumption | exact encOp_37 _ _ | exact encOp_36 _ _ | exact encOp_35 _ _ | exact encOp_0 _ _ | exact encOp_1 _ _ | exact encOp_2 _ _ | exact encDraft_0 _ | exact encDraft_1 _ | exact encDraft_2 _ | simp)) ?_
          refine gr_rd rfl rfl rfl (rd_strNeL rfl rfl) ?_
          refine gr_rd rfl rfl rfl (rd_move rfl) ?_
          refine gr_split rfl (fun hg3 => ?_) (fun hg3 => ?_)
          · skip
            refine gr_rd rfl rfl rfl (rd_fieldAddr Tryd.fa36_1 rfl) ?_
            refine gr_rd rfl rfl rfl (rd_load1 Tryd.to9 rfl (by first | (apply Cells.own; (repeat (first | exact List.mem_cons_self | apply List.mem_cons_of_mem)); done) | assumption) (by first | rfl | assumption | exact encOp_37 _ _ | exact encOp_36 _ _ | exact encOp_35 _ _ | exact encOp_0 _ _ | exact encOp_1 _ _ | exact encOp_2 _ _ | exact encDraft_0 _ | exact encDraft_1 _ | exact encDraft_2 _ | simp)) ?_
            refine gr_rd rfl rfl rfl (rd_lenL Tryd.underlying9 rfl) ?_
            refine gr_rd rfl rfl rfl (rd_leq rfl rfl) ?_
            (first | refine gr_rd rfl rfl rfl (rd_pick_t rfl rfl) ?_ | refine gr_rd rfl rfl rfl (rd_pick_f rfl rfl) ?_)
            refine gr_rd rfl rfl rfl (rd_move rfl) ?_
            refine gr_split rfl (fun hg9 => ?_) (fun hg9 => ?_)
            · skip
              refine gr_rd rfl rfl rfl (rd_fieldAddr Tryd.fa36_2 rfl) ?_
              refine gr_rd rfl rfl rfl (rd_load1 Tryd.to9 rfl (by first | (apply Cells.own; (repeat (first | exact List.mem_cons_self | apply List.mem_cons_of_mem)); done) | assumption) (by first | rfl | assumption | exact encOp_37 _ _ | exact encOp_36 _ _ | exact encOp_35 _ _ | exact encOp_0 _ _ | exact encOp_1 _ _ | exact encOp_2 _ _ | exact encDraft_0 _ | exact encDraft_1 _ | exact encDraft_2 _ | simp)) ?_
              refine gr_rd rfl rfl rfl (rd_lenL Tryd.underlying9 rfl) ?_
              refine gr_rd rfl rfl rfl (rd_leq rfl rfl) ?_
              (first | refine gr_rd rfl rfl rfl (rd_pick_t rfl rfl) ?_ | refine gr_rd rfl rfl rfl (rd_pick_f rfl rfl) ?_)
              refine gr_rd rfl rfl rfl (rd_assign rfl) ?_
              refine gr_nil ?_
              refine gk_then ?_
              refine gc_ret ?_
              refine gk_result (L' := L) (.inl rfl) _ (res1 rfl rfl) (by repeat (first | exact List.Sublist.refl _ | apply List.Sublist.cons_cons | apply List.Sublist.cons | apply List.Sublist.append (List.Sublist.refl _) | refine List.Sublist.trans ?_ (List.sublist_append_right _ _))) (by first | exact Gh.le_refl _ | assumption | exact Gh.le_trans (by assumption) (by assumption)) ?_
              refine ⟨?_, rfl, rfl⟩
              congr 1
              rw [Bool.eq_iff_iff, goodDraft_iff]
              have hzl := zN_le d.ref
              simp only [beq_iff_eq, beq_eq_false_iff_ne, bne_iff_ne, bne_eq_false_iff_eq, Bool.not_eq_true', Bool.not_eq_false', decide_eq_true_iff, decide_eq_false_iff_not, nil_len, zN_iff, ne_eq, Bool.false_eq_true, iff_false, false_iff, not_and, not_or, true_iff, iff_true, Bool.not_not, Decidable.not_not] at * <;> omega
            · skip
              refine gr_no rfl rfl rfl ?_
              refine gr_no rfl rfl rfl ?_
              refine gr_no rfl rfl rfl ?_
              refine gr_no rfl rfl rfl ?_
              (first | refine gr_rd rfl rfl rfl (rd_pick_t rfl rfl) ?_ | refine gr_rd rfl rfl rfl (rd_pick_f rfl rfl) ?_)
              refine gr_rd rfl rfl rfl (rd_assign rfl) ?_
              refine gr_nil ?_
              refine gk_then ?_
              refine gc_ret ?_
              refine gk_result (L' := L) (.inl rfl) _ (res1 rfl rfl) (by repeat (first | exact List.Sublist.refl _ | apply List.Sublist.cons_cons | apply List.Sublist.cons | apply List.Sublist.append (List.Sublist.refl _) | refine List.Sublist.trans ?_ (List.sublist_append_right _ _))) (by first | exact Gh.le_refl _ | assumption | exact Gh.le_trans (by assumption) (by assumption)) ?_
              refine ⟨?_, rfl, rfl⟩
              congr 1
              rw [Bool.eq_iff_iff, goodDraft_iff]
              have hzl := zN_le d.ref
              simp only [beq_iff_eq, beq_eq_false_iff_ne, bne_iff_ne, bne_eq_false_iff_eq, Bool.not_eq_true', Bool.not_eq_false', decide_eq_true_iff, decide_eq_false_iff_not, nil_len, zN_iff, ne_eq, Bool.false_eq_true, iff_false, false_iff, not_and, not_or, true_iff, iff_true, Bool.not_not, Decidable.not_not] at * <;> omega
          · skip
            refine gr_no rfl rfl rfl ?_
            refine gr_no rfl rfl rfl ?_
            refine gr_no rfl rfl rfl ?_
            refine gr_no rfl rfl rfl ?_
            (first | refine gr_rd rfl rfl rfl (rd_pick_t rfl rfl) ?_ | refine gr_rd rfl rfl rfl (rd_pick_f rfl rfl) ?_)
            refine gr_rd rfl rfl rfl (rd_move rfl) ?_
            refine gr_no rfl rfl rfl ?_
            refine gr_no rfl rfl rfl ?_
            refine gr_no rfl rfl rfl ?_
            refine gr_no rfl rfl rfl ?_
            (first | refine gr_rd rfl rfl rfl (rd_pick_t rfl rfl) ?_ | refine gr_rd rfl rfl rfl (rd_pick_f rfl rfl) ?_)
            refine gr_rd rfl rfl rfl (rd_assign rfl) ?_
            refine gr_nil ?_
            refine gk_then ?_
            refine gc_ret ?_
            refine gk_result (L' := L) (.inl rfl) _ (res1 rfl rfl) (by repeat (first | exact List.Sublist.refl _ | apply List.Sublist.cons_cons | apply List.Sublist.cons | apply List.Sublist.append (List.Sublist.refl _) | refine List.Sublist.trans ?_ (List.sublist_append_right _ _))) (by first | exact Gh.le_refl _ | assumption | exact Gh.le_trans (by assumption) (by assumption)) ?_
            refine ⟨?_, rfl, rfl⟩
            congr 1
            rw [Bool.eq_iff_iff, goodDraft_iff]
            have hzl := zN_le d.ref
            simp only [beq_iff_eq, beq_eq_false_iff_ne, bne_iff_ne, bne_eq_false_iff_eq, Bool.not_eq_true', Bool.not_eq_false', decide_eq_true_iff, decide_eq_false_iff_not, nil_len, zN_iff, ne_eq, Bool.false_eq_true, iff_false, false_iff, not_and, not_or, true_iff, iff_true, Bool.not_not, Decidable.not_not] at * <;> omega
        · skip
          refine gc_seq ?_
          refine gc_seqr [(.mv, 0), (.mv, 1)] rfl ?_
          refine gr_rd rfl rfl rfl (rd_eql rfl rfl) ?_
          refine gr_rd rfl rfl rfl (rd_assign rfl) ?_
          refine gr_nil ?_
          refine gk_then ?_
          refine gc_cond rfl (fun hc10 => ?_) (fun hc10 => ?_)
          · skip
            refine gc_seq ?_
            refine gc_seqr [(.mv, 0), (.mv, 1), (.mv, 2), (.mv, 3), (.mv, 4), (.mv, 5), (.mv, 6)] rfl ?_
            refine gr_rd rfl rfl rfl (rd_move rfl) ?_
            refine gr_rd rfl rfl rfl (rd_not rfl) ?_
            refine gr_rd rfl rfl rfl (rd_move rfl) ?_
            refine gr_split rfl (fun hg2 => ?_) (fun hg2 => ?_)
            · skip
              refine gr_no rfl rfl rfl ?_
              refine gr_no rfl rfl rfl ?_
              refine gr_no rfl rfl rfl ?_
              (first | refine gr_rd rfl rfl rfl (rd_pick_t rfl rfl) ?_ | refine gr_rd rfl rfl rfl (rd_pick_f rfl rfl) ?_)
              refine gr_nil ?_
              refine gk_then ?_
              refine gc_yes rfl ?_
              refine gc_seq ?_
              refine gc_seqr [(.mv, 0)] rfl ?_
              refine gr_rd rfl rfl rfl (rd_assign rfl) ?_
              refine gr_nil ?_
              refine gk_then ?_
              refine gc_ret ?_
              refine gk_ret_inBlock ?_
              refine gk_ret_then ?_
              refine gk_result (L' := L) (.inl rfl) _ (res1 rfl rfl) (by repeat (first | exact List.Sublist.refl _ | apply List.Sublist.cons_cons | apply List.Sublist.cons | apply List.Sublist.append (List.Sublist.refl _) | refine List.Sublist.trans ?_ (List.sublist_append_right _ _))) (by first | exact Gh.le_refl _ | assumption | exact Gh.le_trans (by assumption) (by assumption)) ?_
              refine ⟨?_, rfl, rfl⟩
              congr 1
              rw [Bool.eq_iff_iff, goodDraft_iff]
              have hzl := zN_le d.ref
              simp only [beq_iff_eq, beq_eq_false_iff_ne, bne_iff_ne, bne_eq_false_iff_eq, Bool.not_eq_true', Bool.not_eq_false', decide_eq_true_iff, decide_eq_false_iff_not, nil_len, zN_iff, ne_eq, Bool.false_eq_true, iff_false, false_iff, not_and, not_or, true_iff, iff_true, Bool.not_not, Decidable.not_not] at * <;> omega
            · skip
              refine gr_rd rfl rfl rfl (rd_fieldAddr Tryd.fa36_2 rfl) ?_
              refine gr_rd rfl rfl rfl (rd_load1 Tryd.to9 rfl (by first | (apply Cells.own; (repeat (first | exact List.mem_cons_self | apply List.mem_cons_of_mem)); done) | assumption) (by first | rfl | assumption | exact encOp_37 _ _ | exact encOp_36 _ _ | exact encOp_35 _ _ | exact encOp_0 _ _ | exact encOp_1 _ _ | exact encOp_2 _ _ | exact encDraft_0 _ | exact encDraft_1 _ | exact encDraft_2 _ | simp)) ?_
              refine gr_rd rfl rfl rfl (rd_strNeL rfl rfl) ?_
              (first | refine gr_rd rfl rfl rfl (rd_pick_t rfl rfl) ?_ | refine gr_rd rfl rfl rfl (rd_pick_f rfl rfl) ?_)
              refine gr_nil ?_
              refine gk_then ?_
              refine gc_cond rfl (fun hc11 => ?_) (fun hc11 => ?_)
              · skip
                refine gc_seq ?_
                refine gc_seqr [(.mv, 0)] rfl ?_
                refine gr_rd rfl rfl rfl (rd_assign rfl) ?_
                refine gr_nil ?_
                refine gk_then ?_
                refine gc_ret ?_
                refine gk_ret_inBlock ?_
                refine gk_ret_then ?_
                refine gk_result (L' := L) (.inl rfl) _ (res1 rfl rfl) (by repeat (first | exact List.Sublist.refl _ | apply List.Sublist.cons_cons | apply List.Sublist.cons | apply List.Sublist.append (List.Sublist.refl _) | refine List.Sublist.trans ?_ (List.sublist_append_right _ _))) (by first | exact Gh.le_refl _ | assumption | exact Gh.le_trans (by assumption) (by assumption)) ?_
                refine ⟨?_, rfl, rfl⟩
                congr 1
                rw [Bool.eq_iff_iff, goodDraft_iff]
                have hzl := zN_le d.ref
                simp only [beq_iff_eq, beq_eq_false_iff_ne, bne_iff_ne, bne_eq_false_iff_eq, Bool.not_eq_true', Bool.not_eq_false', decide_eq_true_iff, decide_eq_false_iff_not, nil_len, zN_iff, ne_eq, Bool.false_eq_true, iff_false, false_iff, not_and, not_or, true_iff, iff_true, Bool.not_not, Decidable.not_not] at * <;> omega
              · skip
                refine gc_skip ?_
                refine gk_inBlock ?_
                refine gk_then ?_
                refine gc_seq ?_
                refine gc_seqr [(.mv, 0), (.mv, 1), (.mv, 2), (.mv, 3), (.mv, 4), (.mv, 5), (.mv, 6), (.mv, 7), (.mv, 8), (.mv, 9), (.mv, 10), (.mv, 11), (.mv, 12), (.mv, 13), (.mv, 14), (.mv, 15)] rfl ?_
                refine gr_rd rfl rfl rfl (rd_fieldAddr Tryd.fa36_1 rfl) ?_
                refine gr_rd rfl rfl rfl (rd_load1 Tryd.to9 rfl (by first | (apply Cells.own; (repeat (first | exact List.mem_cons_self | apply List.mem_cons_of_mem)); done) | assumption) (by first | rfl | assumption | exact encOp_37 _ _ | exact encOp_36 _ _ | exact encOp_35 _ _ | exact encOp_0 _ _ | exact encOp_1 _ _ | exact encOp_2 _ _ | exact encDraft_0 _ | exact encDraft_1 _ | exact encDraft_2 _ | simp)) ?_
                refine gr_rd rfl rfl rfl (rd_strNeL rfl rfl) ?_
                refine gr_rd rfl rfl rfl (rd_move rfl) ?_
                refine gr_split rfl (fun hg3 => ?_) (fun hg3 => ?_)
                · skip
                  refine gr_rd rfl rfl rfl (rd_fieldAddr Tryd.fa36_1 rfl) ?_
                  refine gr_rd rfl rfl rfl (rd_load1 Tryd.to9 rfl (by first | (apply Cells.own; (repeat (first | exact List.mem_cons_self | apply List.mem_cons_of_mem)); done) | assumption) (by first | rfl | assumption | exact encOp_37 _ _ | exact encOp_36 _ _ | exact encOp_35 _ _ | exact encOp_0 _ _ | exact encOp_1 _ _ | exact encOp_2 _ _ | exact encDraft_0 _ | exact encDraft_1 _ | exact encDraft_2 _ | simp)) ?_
                  refine gr_rd rfl rfl rfl (rd_lenL Tryd.underlying9 rfl) ?_
                  refine gr_rd rfl rfl rfl (rd_leq rfl rfl) ?_
                  (first | refine gr_rd rfl rfl rfl (rd_pick_t rfl rfl) ?_ | refine gr_rd rfl rfl rfl (rd_pick_f rfl rfl) ?_)
                  refine gr_rd rfl rfl rfl (rd_move rfl) ?_
                  refine gr_split rfl (fun hg9 => ?_) (fun hg9 => ?_)
                  · skip
                    refine gr_rd rfl rfl rfl (rd_fieldAddr Tryd.fa36_2 rfl) ?_
                    refine gr_rd rfl rfl rfl (rd_load1 Tryd.to9 rfl (by first | (apply Cells.own; (repeat (first | exact List.mem_cons_self | apply List.mem_cons_of_mem)); done) | assumption) (by first | rfl | assumption | exact encOp_37 _ _ | exact encOp_36 _ _ | exact encOp_35 _ _ | exact encOp_0 _ _ | exact encOp_1 _ _ | exact encOp_2 _ _ | exact encDraft_0 _ | exact encDraft_1 _ | exact encDraft_2 _ | simp)) ?_
                    refine gr_rd rfl rfl rfl (rd_lenL Tryd.underlying9 rfl) ?_
                    refine gr_rd rfl rfl rfl (rd_leq rfl rfl) ?_
                    (first | refine gr_rd rfl rfl rfl (rd_pick_t rfl rfl) ?_ | refine gr_rd rfl rfl rfl (rd_pick_f rfl rfl) ?_)
                    refine gr_rd rfl rfl rfl (rd_assign rfl) ?_
                    refine gr_nil ?_
                    refine gk_then ?_
                    refine gc_ret ?_
                    refine gk_result (L' := L) (.inl rfl) _ (res1 rfl rfl) (by repeat (first | exact List.Sublist.refl _ | apply List.Sublist.cons_cons | apply List.Sublist.cons | apply List.Sublist.append (List.Sublist.refl _) | refine List.Sublist.trans ?_ (List.sublist_append_right _ _))) (by first | exact Gh.le_refl _ | assumption | exact Gh.le_trans (by assumption) (by assumption)) ?_
                    refine ⟨?_, rfl, rfl⟩
                    congr 1
                    rw [Bool.eq_iff_iff, goodDraft_iff]
                    have hzl := zN_le d.ref
                    simp only [beq_iff_eq, beq_eq_false_iff_ne, bne_iff_ne, bne_eq_false_iff_eq, Bool.not_eq_true', Bool.not_eq_false', decide_eq_true_iff, decide_eq_false_iff_not, nil_len, zN_iff, ne_eq, Bool.false_eq_true, iff_false, false_iff, not_and, not_or, true_iff, iff_true, Bool.not_not, Decidable.not_not] at * <;> omega
                  · skip
                    refine gr_no rfl rfl rfl ?_
                    refine gr_no rfl rfl rfl ?_
                    refine gr_no rfl rfl rfl ?_
                    refine gr_no rfl rfl rfl ?_
                    (first | refine gr_rd rfl rfl rfl (rd_pick_t rfl rfl) ?_ | refine gr_rd rfl rfl rfl (rd_pick_f rfl rfl) ?_)
                    refine gr_rd rfl rfl rfl (rd_assign rfl) ?_
                    refine gr_nil ?_
                    refine gk_then ?_
                    refine gc_ret ?_
                    refine gk_result (L' := L) (.inl rfl) _ (res1 rfl rfl) (by repeat (first | exact List.Sublist.refl _ | apply List.Sublist.cons_cons | apply List.Sublist.cons | apply List.Sublist.append (List.Sublist.refl _) | refine List.Sublist.trans ?_ (List.sublist_append_right _ _))) (by first | exact Gh.le_refl _ | assumption | exact Gh.le_trans (by assumption) (by assumption)) ?_
                    refine ⟨?_, rfl, rfl⟩
                    congr 1
                    rw [Bool.eq_iff_iff, goodDraft_iff]
                    have hzl := zN_le d.ref
                    simp only [beq_iff_eq, beq_eq_false_iff_ne, bne_iff_ne, bne_eq_false_iff_eq, Bool.not_eq_true', Bool.not_eq_false', decide_eq_true_iff, decide_eq_false_iff_not, nil_len, zN_iff, ne_eq, Bool.false_eq_true, iff_false, false_iff, not_and, not_or, true_iff, iff_true, Bool.not_not, Decidable.not_not] at * <;> omega
                · skip
                  refine gr_no rfl rfl rfl ?_
                  refine gr_no rfl rfl rfl ?_
                  refine gr_no rfl rfl rfl ?_
                  refine gr_no rfl rfl rfl ?_
                  (first | refine gr_rd rfl rfl rfl (rd_pick_t rfl rfl) ?_ | refine gr_rd rfl rfl rfl (rd_pick_f rfl rfl) ?_)
                  refine gr_rd rfl rfl rfl (rd_move rfl) ?_
                  refine gr_no rfl rfl rfl ?_
                  refine gr_no rfl rfl rfl ?_
                  refine gr_no rfl rfl rfl ?_
                  refine gr_no rfl rfl rfl ?_
                  (first | refine gr_rd rfl rfl rfl (rd_pick_t rfl rfl) ?_ | refine gr_rd rfl rfl rfl (rd_pick_f rfl rfl) ?_)
                  refine gr_rd rfl rfl rfl (rd_assign rfl) ?_
                  refine gr_nil ?_
                  refine gk_then ?_
                  refine gc_ret ?_
                  refine gk_result (L' := L) (.inl rfl) _ (res1 rfl rfl) (by repeat (first | exact List.Sublist.refl _ | apply List.Sublist.cons_cons | apply List.Sublist.cons | apply List.Sublist.append (List.Sublist.refl _) | refine List.Sublist.trans ?_ (List.sublist_append_right _ _))) (by first | exact Gh.le_refl _ | assumption | exact Gh.le_trans (by assumption) (by assumption)) ?_
                  refine ⟨?_, rfl, rfl⟩
                  congr 1
                  rw [Bool.eq_iff_iff, goodDraft_iff]
                  have hzl := zN_le d.ref
                  simp only [beq_iff_eq, beq_eq_false_iff_ne, bne_iff_ne, bne_eq_false_iff_eq, Bool.not_eq_true', Bool.not_eq_false', decide_eq_true_iff, decide_eq_false_iff_not, nil_len, zN_iff, ne_eq, Bool.false_eq_true, iff_false, false_iff, not_and, not_or, true_iff, iff_true, Bool.not_not, Decidable.not_not] at * <;> omega
          · skip
            refine gc_seq ?_
            refine gc_seqr [(.mv, 0)] rfl ?_
            refine gr_rd rfl rfl rfl (rd_assign rfl) ?_
            refine gr_nil ?_
            refine gk_then ?_
            refine gc_ret ?_
            refine gk_ret_inBlock ?_
            refine gk_ret_then ?_
            refine gk_result (L' := L) (.inl rfl) _ (res1 rfl rfl) (by repeat (first | exact List.Sublist.refl _ | apply List.Sublist.cons_cons | apply List.Sublist.cons | apply List.Sublist.append (List.Sublist.refl _) | refine List.Sublist.trans ?_ (List.sublist_append_right _ _))) (by first | exact Gh.le_refl _ | assumption | exact Gh.le_trans (by assumption) (by assumption)) ?_
            refine ⟨?_, rfl, rfl⟩
            congr 1
            rw [Bool.eq_iff_iff, goodDraft_iff]
            have hzl := zN_le d.ref
            simp only [beq_iff_eq, beq_eq_false_iff_ne, bne_iff_ne, bne_eq_false_iff_eq, Bool.not_eq_true', Bool.not_eq_false', decide_eq_true_iff, decide_eq_false_iff_not, nil_len, zN_iff, ne_eq, Bool.false_eq_true, iff_false, false_iff, not_and, not_or, true_iff, iff_true, Bool.not_not, Decidable.not_not] at * <;> omega
    · skip
      refine gc_seqr [(.mv, 0), (.mv, 1)] rfl ?_
      refine gr_rd rfl rfl rfl (rd_eql rfl rfl) ?_
      refine gr_rd rfl rfl rfl (rd_assign rfl) ?_
      refine gr_nil ?_
      refine gk_then ?_
      refine gc_cond rfl (fun hc12 => ?_) (fun hc12 => ?_)
      · skip
        refine gc_seq ?_
        refine gc_seqr [(.mv, 0)] rfl ?_
        refine gr_rd rfl rfl rfl (rd_move rfl) ?_
        refine gr_nil ?_
        refine gk_then ?_
        refine gc_cond rfl (fun hc13 => ?_) (fun hc13 => ?_)
        · skip
          refine gc_seq ?_
          refine gc_seqr [(.mv, 0)] rfl ?_
          refine gr_rd rfl rfl rfl (rd_assign rfl) ?_
          refine gr_nil ?_
          refine gk_then ?_
          refine gc_ret ?_
          refine gk_ret_inBlock ?_
          refine gk_ret_then ?_
          refine gk_result (L' := L) (.inl rfl) _ (res1 rfl rfl) (by repeat (first | exact List.Sublist.refl _ | apply List.Sublist.cons_cons | apply List.Sublist.cons | apply List.Sublist.append (List.Sublist.refl _) | refine List.Sublist.trans ?_ (List.sublist_append_right _ _))) (by first | exact Gh.le_refl _ | assumption | exact Gh.le_trans (by assumption) (by assumption)) ?_
          refine ⟨?_, rfl, rfl⟩
          congr 1
          rw [Bool.eq_iff_iff, goodDraft_iff]
          have hzl := zN_le d.ref
          simp only [beq_iff_eq, beq_eq_false_iff_ne, bne_iff_ne, bne_eq_false_iff_eq, Bool.not_eq_true', Bool.not_eq_false', decide_eq_true_iff, decide_eq_false_iff_not, nil_len, zN_iff, ne_eq, Bool.false_eq_true, iff_false, false_iff, not_and, not_or, true_iff, iff_true, Bool.not_not, Decidable.not_not] at * <;> omega
        · skip
          refine gc_skip ?_
          refine gk_inBlock ?_
          refine gk_then ?_
          refine gc_seq ?_
          refine gc_seqr [(.mv, 0), (.mv, 1), (.mv, 2), (.mv, 3), (.mv, 4), (.mv, 5), (.mv, 6), (.mv, 7), (.mv, 8), (.mv, 9), (.mv, 10), (.mv, 11), (.mv, 12), (.mv, 13), (.mv, 14), (.mv, 15)] rfl ?_
          refine gr_rd rfl rfl rfl (rd_fieldAddr Tryd.fa36_1 rfl) ?_
          refine gr_rd rfl rfl rfl (rd_load1 Tryd.to9 rfl (by first | (apply Cells.own; (repeat (first | exact List.mem_cons_self | apply List.mem_cons_of_mem)); done) | assumption) (by first | rfl | assumption | exact encOp_37 _ _ | exact encOp_36 _ _ | exact encOp_35 _ _ | exact encOp_0 _ _ | exact encOp_1 _ _ | exact encOp_2 _ _ | exact encDraft_0 _ | exact encDraft_1 _ | exact encDraft_2 _ | simp)) ?_
          refine gr_rd rfl rfl rfl (rd_strNeL rfl rfl) ?_
          refine gr_rd rfl rfl rfl (rd_move rfl) ?_
          refine gr_split rfl (fun hg3 => ?_) (fun hg3 => ?_)
          · skip
            refine gr_rd rfl rfl rfl (rd_fieldAddr Tryd.fa36_1 rfl) ?_
            refine gr_rd rfl rfl rfl (rd_load1 Tryd.to9 rfl (by first | (apply Cells.own; (repeat (first | exact List.mem_cons_self | apply List.mem_cons_of_mem)); done) | assumption) (by first | rfl | assumption | exact encOp_37 _ _ | exact encOp_36 _ _ | exact encOp_35 _ _ | exact encOp_0 _ _ | exact encOp_1 _ _ | exact encOp_2 _ _ | exact encDraft_0 _ | exact encDraft_1 _ | exact encDraft_2 _ | simp)) ?_
            refine gr_rd rfl rfl rfl (rd_lenL Tryd.underlying9 rfl) ?_
            refine gr_rd rfl rfl rfl (rd_leq rfl rfl) ?_
            (first | refine gr_rd rfl rfl rfl (rd_pick_t rfl rfl) ?_ | refine gr_rd rfl rfl rfl (rd_pick_f rfl rfl) ?_)
            refine gr_rd rfl rfl rfl (rd_move rfl) ?_
            refine gr_split rfl (fun hg9 => ?_) (fun hg9 => ?_)
            · skip
              refine gr_rd rfl rfl rfl (rd_fieldAddr Tryd.fa36_2 rfl) ?_
              refine gr_rd rfl rfl rfl (rd_load1 Tryd.to9 rfl (by first | (apply Cells.own; (repeat (first | exact List.mem_cons_self | apply List.mem_cons_of_mem)); done) | assumption) (by first | rfl | assumption | exact encOp_37 _ _ | exact encOp_36 _ _ | exact encOp_35 _ _ | exact encOp_0 _ _ | exact encOp_1 _ _ | exact encOp_2 _ _ | exact encDraft_0 _ | exact encDraft_1 _ | exact encDraft_2 _ | simp)) ?_
              refine gr_rd rfl rfl rfl (rd_lenL Tryd.underlying9 rfl) ?_
              refine gr_rd rfl rfl rfl (rd_leq rfl rfl) ?_
              (first | refine gr_rd rfl rfl rfl (rd_pick_t rfl rfl) ?_ | refine gr_rd rfl rfl rfl (rd_pick_f rfl rfl) ?_)
              refine gr_rd rfl rfl rfl (rd_assign rfl) ?_
              refine gr_nil ?_
              refine gk_then ?_
              refine gc_ret ?_
              refine gk_result (L' := L) (.inl rfl) _ (res1 rfl rfl) (by repeat (first | exact List.Sublist.refl _ | apply List.Sublist.cons_cons | apply List.Sublist.cons | apply List.Sublist.append (List.Sublist.refl _) | refine List.Sublist.trans ?_ (List.sublist_append_right _ _))) (by first | exact Gh.le_refl _ | assumption | exact Gh.le_trans (by assumption) (by assumption)) ?_
              refine ⟨?_, rfl, rfl⟩
              congr 1
              rw [Bool.eq_iff_iff, goodDraft_iff]
              have hzl := zN_le d.ref
              simp only [beq_iff_eq, beq_eq_false_iff_ne, bne_iff_ne, bne_eq_false_iff_eq, Bool.not_eq_true', Bool.not_eq_false', decide_eq_true_iff, decide_eq_false_iff_not, nil_len, zN_iff, ne_eq, Bool.false_eq_true, iff_false, false_iff, not_and, not_or, true_iff, iff_true, Bool.not_not, Decidable.not_not] at * <;> omega
            · skip
              refine gr_no rfl rfl rfl ?_
              refine gr_no rfl rfl rfl ?_
              refine gr_no rfl rfl rfl ?_
              refine gr_no rfl rfl rfl ?_
              (first | refine gr_rd rfl rfl rfl (rd_pick_t rfl rfl) ?_ | refine gr_rd rfl rfl rfl (rd_pick_f rfl rfl) ?_)
              refine gr_rd rfl rfl rfl (rd_assign rfl) ?_
              refine gr_nil ?_
              refine gk_then ?_
              refine gc_ret ?_
              refine gk_result (L' := L) (.inl rfl) _ (res1 rfl rfl) (by repeat (first | exact List.Sublist.refl _ | apply List.Sublist.cons_cons | apply List.Sublist.cons | apply List.Sublist.append (List.Sublist.refl _) | refine List.Sublist.trans ?_ (List.sublist_append_right _ _))) (by first | exact Gh.le_refl _ | assumption | exact Gh.le_trans (by assumption) (by assumption)) ?_
              refine ⟨?_, rfl, rfl⟩
              congr 1
              rw [Bool.eq_iff_iff, goodDraft_iff]
              have hzl := zN_le d.ref
              simp only [beq_iff_eq, beq_eq_false_iff_ne, bne_iff_ne, bne_eq_false_iff_eq, Bool.not_eq_true', Bool.not_eq_false', decide_eq_true_iff, decide_eq_false_iff_not, nil_len, zN_iff, ne_eq, Bool.false_eq_true, iff_false, false_iff, not_and, not_or, true_iff, iff_true, Bool.not_not, Decidable.not_not] at * <;> omega
          · skip
            refine gr_no rfl rfl rfl ?_
            refine gr_no rfl rfl rfl ?_
            refine gr_no rfl rfl rfl ?_
            refine gr_no rfl rfl rfl ?_
            (first | refine gr_rd rfl rfl rfl (rd_pick_t rfl rfl) ?_ | refine gr_rd rfl rfl rfl (rd_pick_f rfl rfl) ?_)
            refine gr_rd rfl rfl rfl (rd_move rfl) ?_
            refine gr_no rfl rfl rfl ?_
            refine gr_no rfl rfl rfl ?_
            refine gr_no rfl rfl rfl ?_
            refine gr_no rfl rfl rfl ?_
            (first | refine gr_rd rfl rfl rfl (rd_pick_t rfl rfl) ?_ | refine gr_rd rfl rfl rfl (rd_pick_f rfl rfl) ?_)
            refine gr_rd rfl rfl rfl (rd_assign rfl) ?_
            refine gr_nil ?_
            refine gk_then ?_
            refine gc_ret ?_
            refine gk_result (L' := L) (.inl rfl) _ (res1 rfl rfl) (by repeat (first | exact List.Sublist.refl _ | apply List.Sublist.cons_cons | apply List.Sublist.cons | apply List.Sublist.append (List.Sublist.refl _) | refine List.Sublist.trans ?_ (List.sublist_append_right _ _))) (by first | exact Gh.le_refl _ | assumption | exact Gh.le_trans (by assumption) (by assumption)) ?_
            refine ⟨?_, rfl, rfl⟩
            congr 1
            rw [Bool.eq_iff_iff, goodDraft_iff]
            have hzl := zN_le d.ref
            simp only [beq_iff_eq, beq_eq_false_iff_ne, bne_iff_ne, bne_eq_false_iff_eq, Bool.not_eq_true', Bool.not_eq_false', decide_eq_true_iff, decide_eq_false_iff_not, nil_len, zN_iff, ne_eq, Bool.false_eq_true, iff_false, false_iff, not_and, not_or, true_iff, iff_true, Bool.not_not, Decidable.not_not] at * <;> omega
      · skip
        refine gc_seq ?_
        refine gc_seqr [(.mv, 0), (.mv, 1)] rfl ?_
        refine gr_rd rfl rfl rfl (rd_eql rfl rfl) ?_
        refine gr_rd rfl rfl rfl (rd_assign rfl) ?_
        refine gr_nil ?_
        refine gk_then ?_
        refine gc_cond rfl (fun hc14 => ?_) (fun hc14 => ?_)
        · skip
          refine gc_skip ?_
          refine gk_inBlock ?_
          refine gk_then ?_
          refine gc_seq ?_
          refine gc_seqr [(.mv, 0), (.mv, 1), (.mv, 2), (.mv, 3), (.mv, 4), (.mv, 5), (.mv, 6), (.mv, 7), (.mv, 8), (.mv, 9), (.mv, 10), (.mv, 11), (.mv, 12), (.mv, 13), (.mv, 14), (.mv, 15)] rfl ?_
          refine gr_rd rfl rfl rfl (rd_fieldAddr Tryd.fa36_1 rfl) ?_
          refine gr_rd rfl rfl rfl (rd_load1 Tryd.to9 rfl (by first | (apply Cells.own; (repeat (first | exact List.mem_cons_self | apply List.mem_cons_of_mem)); done) | assumption) (by first | rfl | assumption | exact encOp_37 _ _ | exact encOp_36 _ _ | exact encOp_35 _ _ | exact encOp_0 _ _ | exact encOp_1 _ _ | exact encOp_2 _ _ | exact encDraft_0 _ | exact encDraft_1 _ | exact encDraft_2 _ | simp)) ?_
          refine gr_rd rfl rfl rfl (rd_strNeL rfl rfl) ?_
          refine gr_rd rfl rfl rfl (rd_move rfl) ?_
          refine gr_split rfl (fun hg3 => ?_) (fun hg3 => ?_)
          · skip
            refine gr_rd rfl rfl rfl (rd_fieldAddr Tryd.fa36_1 rfl) ?_
            refine gr_rd rfl rfl rfl (rd_load1 Tryd.to9 rfl (by first | (apply Cells.own; (repeat (first | exact List.mem_cons_self | apply List.mem_cons_of_mem)); done) | assumption) (by first | rfl | assumption | exact encOp_37 _ _ | exact encOp_36 _ _ | exact encOp_35 _ _ | exact encOp_0 _ _ | exact encOp_1 _ _ | exact encOp_2 _ _ | exact encDraft_0 _ | exact encDraft_1 _ | exact encDraft_2 _ | simp)) ?_
            refine gr_rd rfl rfl rfl (rd_lenL Tryd.underlying9 rfl) ?_
            refine gr_rd rfl rfl rfl (rd_leq rfl rfl) ?_
            (first | refine gr_rd rfl rfl rfl (rd_pick_t rfl rfl) ?_ | refine gr_rd rfl rfl rfl (rd_pick_f rfl rfl) ?_)
            refine gr_rd rfl rfl rfl (rd_move rfl) ?_
            refine gr_split rfl (fun hg9 => ?_) (fun hg9 => ?_)
            · skip
              refine gr_rd rfl rfl rfl (rd_fieldAddr Tryd.fa36_2 rfl) ?_
              refine gr_rd rfl rfl rfl (rd_load1 Tryd.to9 rfl (by first | (apply Cells.own; (repeat (first | exact List.mem_cons_self | apply List.mem_cons_of_mem)); done) | assumption) (by first | rfl | assumption | exact encOp_37 _ _ | exact encOp_36 _ _ | exact encOp_35 _ _ | exact encOp_0 _ _ | exact encOp_1 _ _ | exact encOp_2 _ _ | exact encDraft_0 _ | exact encDraft_1 _ | exact encDraft_2 _ | simp)) ?_
              refine gr_rd rfl rfl rfl (rd_lenL Tryd.underlying9 rfl) ?_
              refine gr_rd rfl rfl rfl (rd_leq rfl rfl) ?_
              (first | refine gr_rd rfl rfl rfl (rd_pick_t rfl rfl) ?_ | refine gr_rd rfl rfl rfl (rd_pick_f rfl rfl) ?_)
              refine gr_rd rfl rfl rfl (rd_assign rfl) ?_
              refine gr_nil ?_
              refine gk_then ?_
              refine gc_ret ?_
              refine gk_result (L' := L) (.inl rfl) _ (res1 rfl rfl) (by repeat (first | exact List.Sublist.refl _ | apply List.Sublist.cons_cons | apply List.Sublist.cons | apply List.Sublist.append (List.Sublist.refl _) | refine List.Sublist.trans ?_ (List.sublist_append_right _ _))) (by first | exact Gh.le_refl _ | assumption | exact Gh.le_trans (by assumption) (by assumption)) ?_
              refine ⟨?_, rfl, rfl⟩
              congr 1
              rw [Bool.eq_iff_iff, goodDraft_iff]
              have hzl := zN_le d.ref
              simp only [beq_iff_eq, beq_eq_false_iff_ne, bne_iff_ne, bne_eq_false_iff_eq, Bool.not_eq_true', Bool.not_eq_false', decide_eq_true_iff, decide_eq_false_iff_not, nil_len, zN_iff, ne_eq, Bool.false_eq_true, iff_false, false_iff, not_and, not_or, true_iff, iff_true, Bool.not_not, Decidable.not_not] at * <;> omega
            · skip
              refine gr_no rfl rfl rfl ?_
              refine gr_no rfl rfl rfl ?_
              refine gr_no rfl rfl rfl ?_
              refine gr_no rfl rfl rfl ?_
              (first | refine gr_rd rfl rfl rfl (rd_pick_t rfl rfl) ?_ | refine gr_rd rfl rfl rfl (rd_pick_f rfl rfl) ?_)
              refine gr_rd rfl rfl rfl (rd_assign rfl) ?_
              refine gr_nil ?_
              refine gk_then ?_
              refine gc_ret ?_
              refine gk_result (L' := L) (.inl rfl) _ (res1 rfl rfl) (by repeat (first | exact List.Sublist.refl _ | apply List.Sublist.cons_cons | apply List.Sublist.cons | apply List.Sublist.append (List.Sublist.refl _) | refine List.Sublist.trans ?_ (List.sublist_append_right _ _))) (by first | exact Gh.le_refl _ | assumption | exact Gh.le_trans (by assumption) (by assumption)) ?_
              refine ⟨?_, rfl, rfl⟩
              congr 1
              rw [Bool.eq_iff_iff, goodDraft_iff]
              have hzl := zN_le d.ref
              simp only [beq_iff_eq, beq_eq_false_iff_ne, bne_iff_ne, bne_eq_false_iff_eq, Bool.not_eq_true', Bool.not_eq_false', decide_eq_true_iff, decide_eq_false_iff_not, nil_len, zN_iff, ne_eq, Bool.false_eq_true, iff_false, false_iff, not_and, not_or, true_iff, iff_true, Bool.not_not, Decidable.not_not] at * <;> omega
          · skip
            refine gr_no rfl rfl rfl ?_
            refine gr_no rfl rfl rfl ?_
            refine gr_no rfl rfl rfl ?_
            refine gr_no rfl rfl rfl ?_
            (first | refine gr_rd rfl rfl rfl (rd_pick_t rfl rfl) ?_ | refine gr_rd rfl rfl rfl (rd_pick_f rfl rfl) ?_)
            refine gr_rd rfl rfl rfl (rd_move rfl) ?_
            refine gr_no rfl rfl rfl ?_
            refine gr_no rfl rfl rfl ?_
            refine gr_no rfl rfl rfl ?_
            refine gr_no rfl rfl rfl ?_
            (first | refine gr_rd rfl rfl rfl (rd_pick_t rfl rfl) ?_ | refine gr_rd rfl rfl rfl (rd_pick_f rfl rfl) ?_)
            refine gr_rd rfl rfl rfl (rd_assign rfl) ?_
            refine gr_nil ?_
            refine gk_then ?_
            refine gc_ret ?_
            refine gk_result (L' := L) (.inl rfl) _ (res1 rfl rfl) (by repeat (first | exact List.Sublist.refl _ | apply List.Sublist.cons_cons | apply List.Sublist.cons | apply List.Sublist.append (List.Sublist.refl _) | refine List.Sublist.trans ?_ (List.sublist_append_right _ _))) (by first | exact Gh.le_refl _ | assumption | exact Gh.le_trans (by assumption) (by assumption)) ?_
            refine ⟨?_, rfl, rfl⟩
            congr 1
            rw [Bool.eq_iff_iff, goodDraft_iff]
            have hzl := zN_le d.ref
            simp only [beq_iff_eq, beq_eq_false_iff_ne, bne_iff_ne, bne_eq_false_iff_eq, Bool.not_eq_true', Bool.not_eq_false', decide_eq_true_iff, decide_eq_false_iff_not, nil_len, zN_iff, ne_eq, Bool.false_eq_true, iff_false, false_iff, not_and, not_or, true_iff, iff_true, Bool.not_not, Decidable.not_not] at * <;> omega
        · skip
          refine gc_seq ?_
          refine gc_seqr [(.mv, 0), (.mv, 1)] rfl ?_
          refine gr_rd rfl rfl rfl (rd_eql rfl rfl) ?_
          refine gr_rd rfl rfl rfl (rd_assign rfl) ?_
          refine gr_nil ?_
          refine gk_then ?_
          refine gc_cond rfl (fun hc15 => ?_) (fun hc15 => ?_)
          · skip
            refine gc_seq ?_
            refine gc_seqr [(.mv, 0), (.mv, 1), (.mv, 2), (.mv, 3), (.mv, 4), (.mv, 5), (.mv, 6)] rfl ?_
            refine gr_rd rfl rfl rfl (rd_move rfl) ?_
            refine gr_rd rfl rfl rfl (rd_not rfl) ?_
            refine gr_rd rfl rfl rfl (rd_move rfl) ?_
            refine gr_split rfl (fun hg2 => ?_) (fun hg2 => ?_)
            · skip
              refine gr_no rfl rfl rfl ?_
              refine gr_no rfl rfl rfl ?_
              refine gr_no rfl rfl rfl ?_
              (first | refine gr_rd rfl rfl rfl (rd_pick_t rfl rfl) ?_ | refine gr_rd rfl rfl rfl (rd_pick_f rfl rfl) ?_)
              refine gr_nil ?_
              refine gk_then ?_
              refine gc_yes rfl ?_
              refine gc_seq ?_
              refine gc_seqr [(.mv, 0)] rfl ?_
              refine gr_rd rfl rfl rfl (rd_assign rfl) ?_
              refine gr_nil ?_
              refine gk_then ?_
              refine gc_ret ?_
              refine gk_ret_inBlock ?_
              refine gk_ret_then ?_
              refine gk_result (L' := L) (.inl rfl) _ (res1 rfl rfl) (by repeat (first | exact List.Sublist.refl _ | apply List.Sublist.cons_cons | apply List.Sublist.cons | apply List.Sublist.append (List.Sublist.refl _) | refine List.Sublist.trans ?_ (List.sublist_append_right _ _))) (by first | exact Gh.le_refl _ | assumption | exact Gh.le_trans (by assumption) (by assumption)) ?_
              refine ⟨?_, rfl, rfl⟩
              congr 1
              rw [Bool.eq_iff_iff, goodDraft_iff]
              have hzl := zN_le d.ref
              simp only [beq_iff_eq, beq_eq_false_iff_ne, bne_iff_ne, bne_eq_false_iff_eq, Bool.not_eq_true', Bool.not_eq_false', decide_eq_true_iff, decide_eq_false_iff_not, nil_len, zN_iff, ne_eq, Bool.false_eq_true, iff_false, false_iff, not_and, not_or, true_iff, iff_true, Bool.not_not, Decidable.not_not] at * <;> omega
            · skip
              refine gr_rd rfl rfl rfl (rd_fieldAddr Tryd.fa36_2 rfl) ?_
              refine gr_rd rfl rfl rfl (rd_load1 Tryd.to9 rfl (by first | (apply Cells.own; (repeat (first | exact List.mem_cons_self | apply List.mem_cons_of_mem)); done) | assumption) (by first | rfl | assumption | exact encOp_37 _ _ | exact encOp_36 _ _ | exact encOp_35 _ _ | exact encOp_0 _ _ | exact encOp_1 _ _ | exact encOp_2 _ _ | exact encDraft_0 _ | exact encDraft_1 _ | exact encDraft_2 _ | simp)) ?_
              refine gr_rd rfl rfl rfl (rd_strNeL rfl rfl) ?_
              (first | refine gr_rd rfl rfl rfl (rd_pick_t rfl rfl) ?_ | refine gr_rd rfl rfl rfl (rd_pick_f rfl rfl) ?_)
              refine gr_nil ?_
              refine gk_then ?_
              refine gc_cond rfl (fun hc16 => ?_) (fun hc16 => ?_)
              · skip
                refine gc_seq ?_
                refine gc_seqr [(.mv, 0)] rfl ?_
                refine gr_rd rfl rfl rfl (rd_assign rfl) ?_
                refine gr_nil ?_
                refine gk_then ?_
                refine gc_ret ?_
                refine gk_ret_inBlock ?_
                refine gk_ret_then ?_
                refine gk_result (L' := L) (.inl rfl) _ (res1 rfl rfl) (by repeat (first | exact List.Sublist.refl _ | apply List.Sublist.cons_cons | apply List.Sublist.cons | apply List.Sublist.append (List.Sublist.refl _) | refine List.Sublist.trans ?_ (List.sublist_append_right _ _))) (by first | exact Gh.le_refl _ | assumption | exact Gh.le_trans (by assumption) (by assumption)) ?_
                refine ⟨?_, rfl, rfl⟩
                congr 1
                rw [Bool.eq_iff_iff, goodDraft_iff]
                have hzl := zN_le d.ref
                simp only [beq_iff_eq, beq_eq_false_iff_ne, bne_iff_ne, bne_eq_false_iff_eq, Bool.not_eq_true', Bool.not_eq_false', decide_eq_true_iff, decide_eq_false_iff_not, nil_len, zN_iff, ne_eq, Bool.false_eq_true, iff_false, false_iff, not_and, not_or, true_iff, iff_true, Bool.not_not, Decidable.not_not] at * <;> omega
              · skip
                refine gc_skip ?_
                refine gk_inBlock ?_
                refine gk_then ?_
                refine gc_seq ?_
                refine gc_seqr [(.mv, 0), (.mv, 1), (.mv, 2), (.mv, 3), (.mv, 4), (.mv, 5), (.mv, 6), (.mv, 7), (.mv, 8), (.mv, 9), (.mv, 10), (.mv, 11), (.mv, 12), (.mv, 13), (.mv, 14), (.mv, 15)] rfl ?_
                refine gr_rd rfl rfl rfl (rd_fieldAddr Tryd.fa36_1 rfl) ?_
                refine gr_rd rfl rfl rfl (rd_load1 Tryd.to9 rfl (by first | (apply Cells.own; (repeat (first | exact List.mem_cons_self | apply List.mem_cons_of_mem)); done) | assumption) (by first | rfl | assumption | exact encOp_37 _ _ | exact encOp_36 _ _ | exact encOp_35 _ _ | exact encOp_0 _ _ | exact encOp_1 _ _ | exact encOp_2 _ _ | exact encDraft_0 _ | exact encDraft_1 _ | exact encDraft_2 _ | simp)) ?_
                refine gr_rd rfl rfl rfl (rd_strNeL rfl rfl) ?_
                refine gr_rd rfl rfl rfl (rd_move rfl) ?_
                refine gr_split rfl (fun hg3 => ?_) (fun hg3 => ?_)
                · skip
                  refine gr_rd rfl rfl rfl (rd_fieldAddr Tryd.fa36_1 rfl) ?_
                  refine gr_rd rfl rfl rfl (rd_load1 Tryd.to9 rfl (by first | (apply Cells.own; (repeat (first | exact List.mem_cons_self | apply List.mem_cons_of_mem)); done) | assumption) (by first | rfl | assumption | exact encOp_37 _ _ | exact encOp_36 _ _ | exact encOp_35 _ _ | exact encOp_0 _ _ | exact encOp_1 _ _ | exact encOp_2 _ _ | exact encDraft_0 _ | exact encDraft_1 _ | exact encDraft_2 _ | simp)) ?_
                  refine gr_rd rfl rfl rfl (rd_lenL Tryd.underlying9 rfl) ?_
                  refine gr_rd rfl rfl rfl (rd_leq rfl rfl) ?_
                  (first | refine gr_rd rfl rfl rfl (rd_pick_t rfl rfl) ?_ | refine gr_rd rfl rfl rfl (rd_pick_f rfl rfl) ?_)
                  refine gr_rd rfl rfl rfl (rd_move rfl) ?_
                  refine gr_split rfl (fun hg9 => ?_) (fun hg9 => ?_)
                  · skip
                    refine gr_rd rfl rfl rfl (rd_fieldAddr Tryd.fa36_2 rfl) ?_
                    refine gr_rd rfl rfl rfl (rd_load1 Tryd.to9 rfl (by first | (apply Cells.own; (repeat (first | exact List.mem_cons_self | apply List.mem_cons_of_mem)); done) | assumption) (by first | rfl | assumption | exact encOp_37 _ _ | exact encOp_36 _ _ | exact encOp_35 _ _ | exact encOp_0 _ _ | exact encOp_1 _ _ | exact encOp_2 _ _ | exact encDraft_0 _ | exact encDraft_1 _ | exact encDraft_2 _ | simp)) ?_
                    refine gr_rd rfl rfl rfl (rd_lenL Tryd.underlying9 rfl) ?_
                    refine gr_rd rfl rfl rfl (rd_leq rfl rfl) ?_
                    (first | refine gr_rd rfl rfl rfl (rd_pick_t rfl rfl) ?_ | refine gr_rd rfl rfl rfl (rd_pick_f rfl rfl) ?_)
                    refine gr_rd rfl rfl rfl (rd_assign rfl) ?_
                    refine gr_nil ?_
                    refine gk_then ?_
                    refine gc_ret ?_
                    refine gk_result (L' := L) (.inl rfl) _ (res1 rfl rfl) (by repeat (first | exact List.Sublist.refl _ | apply List.Sublist.cons_cons | apply List.Sublist.cons | apply List.Sublist.append (List.Sublist.refl _) | refine List.Sublist.trans ?_ (List.sublist_append_right _ _))) (by first | exact Gh.le_refl _ | assumption | exact Gh.le_trans (by assumption) (by assumption)) ?_
                    refine ⟨?_, rfl, rfl⟩
                    congr 1
                    rw [Bool.eq_iff_iff, goodDraft_iff]
                    have hzl := zN_le d.ref
                    simp only [beq_iff_eq, beq_eq_false_iff_ne, bne_iff_ne, bne_eq_false_iff_eq, Bool.not_eq_true', Bool.not_eq_false', decide_eq_true_iff, decide_eq_false_iff_not, nil_len, zN_iff, ne_eq, Bool.false_eq_true, iff_false, false_iff, not_and, not_or, true_iff, iff_true, Bool.not_not, Decidable.not_not] at * <;> omega
                  · skip
                    refine gr_no rfl rfl rfl ?_
                    refine gr_no rfl rfl rfl ?_
                    refine gr_no rfl rfl rfl ?_
                    refine gr_no rfl rfl rfl ?_
                    (first | refine gr_rd rfl rfl rfl (rd_pick_t rfl rfl) ?_ | refine gr_rd rfl rfl rfl (rd_pick_f rfl rfl) ?_)
                    refine gr_rd rfl rfl rfl (rd_assign rfl) ?_
                    refine gr_nil ?_
                    refine gk_then ?_
                    refine gc_ret ?_
                    refine gk_result (L' := L) (.inl rfl) _ (res1 rfl rfl) (by repeat (first | exact List.Sublist.refl _ | apply List.Sublist.cons_cons | apply List.Sublist.cons | apply List.Sublist.append (List.Sublist.refl _) | refine List.Sublist.trans ?_ (List.sublist_append_right _ _))) (by first | exact Gh.le_refl _ | assumption | exact Gh.le_trans (by assumption) (by assumption)) ?_
                    refine ⟨?_, rfl, rfl⟩
                    congr 1
                    rw [Bool.eq_iff_iff, goodDraft_iff]
                    have hzl := zN_le d.ref
                    simp only [beq_iff_eq, beq_eq_false_iff_ne, bne_iff_ne, bne_eq_false_iff_eq, Bool.not_eq_true', Bool.not_eq_false', decide_eq_true_iff, decide_eq_false_iff_not, nil_len, zN_iff, ne_eq, Bool.false_eq_true, iff_false, false_iff, not_and, not_or, true_iff, iff_true, Bool.not_not, Decidable.not_not] at * <;> omega
                · skip
                  refine gr_no rfl rfl rfl ?_
                  refine gr_no rfl rfl rfl ?_
                  refine gr_no rfl rfl rfl ?_
                  refine gr_no rfl rfl rfl ?_
                  (first | refine gr_rd rfl rfl rfl (rd_pick_t rfl rfl) ?_ | refine gr_rd rfl rfl rfl (rd_pick_f rfl rfl) ?_)
                  refine gr_rd rfl rfl rfl (rd_move rfl) ?_
                  refine gr_no rfl rfl rfl ?_
                  refine gr_no rfl rfl rfl ?_
                  refine gr_no rfl rfl rfl ?_
                  refine gr_no rfl rfl rfl ?_
                  (first | refine gr_rd rfl rfl rfl (rd_pick_t rfl rfl) ?_ | refine gr_rd rfl rfl rfl (rd_pick_f rfl rfl) ?_)
                  refine gr_rd rfl rfl rfl (rd_assign rfl) ?_
                  refine gr_nil ?_
                  refine gk_then ?_
                  refine gc_ret ?_
                  refine gk_result (L' := L) (.inl rfl) _ (res1 rfl rfl) (by repeat (first | exact List.Sublist.refl _ | apply List.Sublist.cons_cons | apply List.Sublist.cons | apply List.Sublist.append (List.Sublist.refl _) | refine List.Sublist.trans ?_ (List.sublist_append_right _ _))) (by first | exact Gh.le_refl _ | assumption | exact Gh.le_trans (by assumption) (by assumption)) ?_
                  refine ⟨?_, rfl, rfl⟩
                  congr 1
                  rw [Bool.eq_iff_iff, goodDraft_iff]
                  have hzl := zN_le d.ref
                  simp only [beq_iff_eq, beq_eq_false_iff_ne, bne_iff_ne, bne_eq_false_iff_eq, Bool.not_eq_true', Bool.not_eq_false', decide_eq_true_iff, decide_eq_false_iff_not, nil_len, zN_iff, ne_eq, Bool.false_eq_true, iff_false, false_iff, not_and, not_or, true_iff, iff_true, Bool.not_not, Decidable.not_not] at * <;> omega
          · skip
            refine gc_seq ?_
            refine gc_seqr [(.mv, 0)] rfl ?_
            refine gr_rd rfl rfl rfl (rd_assign rfl) ?_
            refine gr_nil ?_
            refine gk_then ?_
            refine gc_ret ?_
            refine gk_ret_inBlock ?_
            refine gk_ret_then ?_
            refine gk_result (L' := L) (.inl rfl) _ (res1 rfl rfl) (by repeat (first | exact List.Sublist.refl _ | apply List.Sublist.cons_cons | apply List.Sublist.cons | apply List.Sublist.append (List.Sublist.refl _) | refine List.Sublist.trans ?_ (List.sublist_append_right _ _))) (by first | exact Gh.le_refl _ | assumption | exact Gh.le_trans (by assumption) (by assumption)) ?_
            refine ⟨?_, rfl, rfl⟩
            congr 1
            rw [Bool.eq_iff_iff, goodDraft_iff]
            have hzl := zN_le d.ref
            simp only [beq_iff_eq, beq_eq_false_iff_ne, bne_iff_ne, bne_eq_false_iff_eq, Bool.not_eq_true', Bool.not_eq_false', decide_eq_true_iff, decide_eq_false_iff_not, nil_len, zN_iff, ne_eq, Bool.false_eq_true, iff_false, false_iff, not_and, not_or, true_iff, iff_true, Bool.not_not, Decidable.not_not] at * <;> omega
theorem rgoodDraft_cc (H : Gh) (L : Chunks) (d : Draft) :
    CC Tryd.prog 62 #[ag (encDraft d)] H L (fun v H' L' => v = .bool (goodDraft d) ∧ H = H' ∧ L = L') := by
  refine cc_of Tryd.func62 rfl (Nat.le_of_ble_eq_true rfl) ?_
  simp only [Tryd.ntmps62]
  refine gc_seq ?_
  refine gc_seqr [(.nm, 0), (.mv, 1)] rfl ?_
  refine gr_nx rfl rfl rfl (nx_box rfl rfl) ?_; rintro _ _ _ _ ⟨b1, rfl, rfl, rfl⟩; refine ⟨trivial, ?_⟩
  refine gr_rd rfl rfl rfl (rd_assign rfl) ?_
  refine gr_nil ?_
  refine gk_then ?_
  refine gc_seq ?_
  refine gc_seq ?_
  refine gc_seqr [(.mv, 0), (.mv, 1), (.mv, 2), (.mv, 3), (.mv, 4), (.mv, 5), (.mv, 6), (.mv, 7), (.mv, 8), (.mv, 9), (.mv, 10), (.mv, 11), (.mv, 12), (.mv, 13), (.mv, 14), (.mv, 15), (.mv, 16), (.mv, 17), (.mv, 18), (.mv, 19), (.mv, 20), (.mv, 21), (.mv, 22), (.mv, 23), (.mv, 24), (.mv, 25)] rfl ?_
  refine gr_rd rfl rfl rfl (rd_fieldAddr Tryd.fa36_0 rfl) ?_
  refine gr_rd rfl rfl rfl (rd_load1 Tryd.to3 rfl (by first | (apply Cells.own; (repeat (first | exact List.mem_cons_self | apply List.mem_cons_of_mem)); done) | assumption) (by first | rfl | assumption | exact encOp_37 _ _ | exact encOp_36 _ _ | exact encOp_35 _ _ | exact encOp_0 _ _ | exact encOp_1 _ _ | exact encOp_2 _ _ | exact encDraft_0 _ | exact encDraft_1 _ | exact encDraft_2 _ | simp)) ?_
  refine gr_rd rfl rfl rfl (rd_lss rfl rfl) ?_
  refine gr_rd rfl rfl rfl (rd_move rfl) ?_
  refine gr_split rfl (fun hg3 => ?_) (fun hg3 => ?_)
  · skip
    refine gr_no rfl rfl rfl ?_
    refine gr_no rfl rfl rfl ?_
    refine gr_no rfl rfl rfl ?_
    (first | refine gr_rd rfl rfl rfl (rd_pick_t rfl rfl) ?_ | refine gr_rd rfl rfl rfl (rd_pick_f rfl rfl) ?_)
    refine gr_rd rfl rfl rfl (rd_move rfl) ?_
    refine gr_no rfl rfl rfl ?_
    refine gr_no rfl rfl rfl ?_
    refine gr_no rfl rfl rfl ?_
    refine gr_no rfl rfl rfl ?_
    (first | refine gr_rd rfl rfl rfl (rd_pick_t rfl rfl) ?_ | refine gr_rd rfl rfl rfl (rd_pick_f rfl rfl) ?_)
    refine gr_rd rfl rfl rfl (rd_move rfl) ?_
    refine gr_no rfl rfl rfl ?_
    refine gr_no rfl rfl rfl ?_
    refine gr_no rfl rfl rfl ?_
    refine gr_no rfl rfl rfl ?_
    (first | refine gr_rd rfl rfl rfl (rd_pick_t rfl rfl) ?_ | refine gr_rd rfl rfl rfl (rd_pick_f rfl rfl) ?_)
    refine gr_rd rfl rfl rfl (rd_move rfl) ?_
    refine gr_no rfl rfl rfl ?_
    refine gr_no rfl rfl rfl ?_
    refine gr_no rfl rfl rfl ?_
    refine gr_no rfl rfl rfl ?_
    (first | refine gr_rd rfl rfl rfl (rd_pick_t rfl rfl) ?_ | refine gr_rd rfl rfl rfl (rd_pick_f rfl rfl) ?_)
    refine gr_nil ?_
    refine gk_then ?_
    refine gc_yes rfl ?_
    refine gc_seq ?_
    refine gc_seqr [(.mv, 0)] rfl ?_
    refine gr_rd rfl rfl rfl (rd_assign rfl) ?_
    refine gr_nil ?_
    refine gk_then ?_
    refine gc_ret ?_
    refine gk_ret_then ?_
    refine gk_result (L' := L) (.inl rfl) _ (res1 rfl rfl) (by repeat (first | exact List.Sublist.refl _ | apply List.Sublist.cons_cons | apply List.Sublist.cons | apply List.Sublist.append (List.Sublist.refl _) | refine List.Sublist.trans ?_ (List.sublist_append_right _ _))) (by first | exact Gh.le_refl _ | assumption | exact Gh.le_trans (by assumption) (by assumption)) ?_
    refine ⟨?_, rfl, rfl⟩
    congr 1
    rw [Bool.eq_iff_iff, goodDraft_iff]
    have hzl := zN_le d.ref
    simp only [beq_iff_eq, beq_eq_false_iff_ne, bne_iff_ne, bne_eq_false_iff_eq, Bool.not_eq_true', Bool.not_eq_false', decide_eq_true_iff, decide_eq_false_iff_not, nil_len, zN_iff, ne_eq, Bool.false_eq_true, iff_false, false_iff, not_and, not_or, true_iff, iff_true, Bool.not_not, Decidable.not_not] at * <;> omega
  · skip
    refine gr_rd rfl rfl rfl (rd_fieldAddr Tryd.fa36_0 rfl) ?_
    refine gr_rd rfl rfl rfl (rd_load1 Tryd.to3 rfl (by first | (apply Cells.own; (repeat (first | exact List.mem_cons_self | apply List.mem_cons_of_mem)); done) | assumption) (by first | rfl | assumption | exact encOp_37 _ _ | exact encOp_36 _ _ | exact encOp_35 _ _ | exact encOp_0 _ _ | exact encOp_1 _ _ | exact encOp_2 _ _ | exact encDraft_0 _ | exact encDraft_1 _ | exact encDraft_2 _ | simp)) ?_
    refine gr_rd rfl rfl rfl (rd_gtr rfl rfl) ?_
    (first | refine gr_rd rfl rfl rfl (rd_pick_t rfl rfl) ?_ | refine gr_rd rfl rfl rfl (rd_pick_f rfl rfl) ?_)
    refine gr_rd rfl rfl rfl (rd_move rfl) ?_
    refine gr_split rfl (fun hg8 => ?_) (fun hg8 => ?_)
    · skip
      refine gr_no rfl rfl rfl ?_
      refine gr_no rfl rfl rfl ?_
      refine gr_no rfl rfl rfl ?_
      refine gr_no rfl rfl rfl ?_
      (first | refine gr_rd rfl rfl rfl (rd_pick_t rfl rfl) ?_ | refine gr_rd rfl rfl rfl (rd_pick_f rfl rfl) ?_)
      refine gr_rd rfl rfl rfl (rd_move rfl) ?_
      refine gr_no rfl rfl rfl ?_
      refine gr_no rfl rfl rfl ?_
      refine gr_no rfl rfl rfl ?_
      refine gr_no rfl rfl rfl ?_
      (first | refine gr_rd rfl rfl rfl (rd_pick_t rfl rfl) ?_ | refine gr_rd rfl rfl rfl (rd_pick_f rfl rfl) ?_)
      refine gr_rd rfl rfl rfl (rd_move rfl) ?_
      refine gr_no rfl rfl rfl ?_
      refine gr_no rfl rfl rfl ?_
      refine gr_no rfl rfl rfl ?_
      refine gr_no rfl rfl rfl ?_
      (first | refine gr_rd rfl rfl rfl (rd_pick_t rfl rfl) ?_ | refine gr_rd rfl rfl rfl (rd_pick_f rfl rfl) ?_)
      refine gr_nil ?_
      refine gk_then ?_
      refine gc_yes rfl ?_
      refine gc_seq ?_
      refine gc_seqr [(.mv, 0)] rfl ?_
      refine gr_rd rfl rfl rfl (rd_assign rfl) ?_
      refine gr_nil ?_
      refine gk_then ?_
      refine gc_ret ?_
      refine gk_ret_then ?_
      refine gk_result (L' := L) (.inl rfl) _ (res1 rfl rfl) (by repeat (first | exact List.Sublist.refl _ | apply List.Sublist.cons_cons | apply List.Sublist.cons | apply List.Sublist.append (List.Sublist.refl _) | refine List.Sublist.trans ?_ (List.sublist_append_right _ _))) (by first | exact Gh.le_refl _ | assumption | exact Gh.le_trans (by assumption) (by assumption)) ?_
      refine ⟨?_, rfl, rfl⟩
      congr 1
      rw [Bool.eq_iff_iff, goodDraft_iff]
      have hzl := zN_le d.ref
      simp only [beq_iff_eq, beq_eq_false_iff_ne, bne_iff_ne, bne_eq_false_iff_eq, Bool.not_eq_true', Bool.not_eq_false', decide_eq_true_iff, decide_eq_false_iff_not, nil_len, zN_iff, ne_eq, Bool.false_eq_true, iff_false, false_iff, not_and, not_or, true_iff, iff_true, Bool.not_not, Decidable.not_not] at * <;> omega
    · skip
      refine gr_rd rfl rfl rfl (rd_fieldAddr Tryd.fa36_1 rfl) ?_
      refine gr_rd rfl rfl rfl (rd_load1 Tryd.to9 rfl (by first | (apply Cells.own; (repeat (first | exact List.mem_cons_self | apply List.mem_cons_of_mem)); done) | assumption) (by first | rfl | assumption | exact encOp_37 _ _ | exact encOp_36 _ _ | exact encOp_35 _ _ | exact encOp_0 _ _ | exact encOp_1 _ _ | exact encOp_2 _ _ | exact encDraft_0 _ | exact encDraft_1 _ | exact encDraft_2 _ | simp)) ?_
      refine gr_rd rfl rfl rfl (rd_lenL Tryd.underlying9 rfl) ?_
      refine gr_rd rfl rfl rfl (rd_lss rfl rfl) ?_
      (first | refine gr_rd rfl rfl rfl (rd_pick_t rfl rfl) ?_ | refine gr_rd rfl rfl rfl (rd_pick_f rfl rfl) ?_)
      refine gr_rd rfl rfl rfl (rd_move rfl) ?_
      refine gr_split rfl (fun hg14 => ?_) (fun hg14 => ?_)
      · skip
        refine gr_no rfl rfl rfl ?_
        refine gr_no rfl rfl rfl ?_
        refine gr_no rfl rfl rfl ?_
        refine gr_no rfl rfl rfl ?_
        (first | refine gr_rd rfl rfl rfl (rd_pick_t rfl rfl) ?_ | refine gr_rd rfl rfl rfl (rd_pick_f rfl rfl) ?_)
        refine gr_rd rfl rfl rfl (rd_move rfl) ?_
        refine gr_no rfl rfl rfl ?_
        refine gr_no rfl rfl rfl ?_
        refine gr_no rfl rfl rfl ?_
        refine gr_no rfl rfl rfl ?_
        (first | refine gr_rd rfl rfl rfl (rd_pick_t rfl rfl) ?_ | refine gr_rd rfl rfl rfl (rd_pick_f rfl rfl) ?_)
        refine gr_nil ?_
        refine gk_then ?_
        refine gc_yes rfl ?_
        refine gc_seq ?_
        refine gc_seqr [(.mv, 0)] rfl ?_
        refine gr_rd rfl rfl rfl (rd_assign rfl) ?_
        refine gr_nil ?_
        refine gk_then ?_
        refine gc_ret ?_
        refine gk_ret_then ?_
        refine gk_result (L' := L) (.inl rfl) _ (res1 rfl rfl) (by repeat (first | exact List.Sublist.refl _ | apply List.Sublist.cons_cons | apply List.Sublist.cons | apply List.Sublist.append (List.Sublist.refl _) | refine List.Sublist.trans ?_ (List.sublist_append_right _ _))) (by first | exact Gh.le_refl _ | assumption | exact Gh.le_trans (by assumption) (by assumption)) ?_
        refine ⟨?_, rfl, rfl⟩
        congr 1
        rw [Bool.eq_iff_iff, goodDraft_iff]
        have hzl := zN_le d.ref
        simp only [beq_iff_eq, beq_eq_false_iff_ne, bne_iff_ne, bne_eq_false_iff_eq, Bool.not_eq_true', Bool.not_eq_false', decide_eq_true_iff, decide_eq_false_iff_not, nil_len, zN_iff, ne_eq, Bool.false_eq_true, iff_false, false_iff, not_and, not_or, true_iff, iff_true, Bool.not_not, Decidable.not_not] at * <;> omega
      · skip
        refine gr_rd rfl rfl rfl (rd_fieldAddr Tryd.fa36_1 rfl) ?_
        refine gr_rd rfl rfl rfl (rd_load1 Tryd.to9 rfl (by first | (apply Cells.own; (repeat (first | exact List.mem_cons_self | apply List.mem_cons_of_mem)); done) | assumption) (by first | rfl | assumption | exact encOp_37 _ _ | exact encOp_36 _ _ | exact encOp_35 _ _ | exact encOp_0 _ _ | exact encOp_1 _ _ | exact encOp_2 _ _ | exact encDraft_0 _ | exact encDraft_1 _ | exact encDraft_2 _ | simp)) ?_
        refine gr_rd rfl rfl rfl (rd_lenL Tryd.underlying9 rfl) ?_
        refine gr_rd rfl rfl rfl (rd_gtr rfl rfl) ?_
        (first | refine gr_rd rfl rfl rfl (rd_pick_t rfl rfl) ?_ | refine gr_rd rfl rfl rfl (rd_pick_f rfl rfl) ?_)
        refine gr_rd rfl rfl rfl (rd_move rfl) ?_
        refine gr_split rfl (fun hg20 => ?_) (fun hg20 => ?_)
        · skip
          refine gr_no rfl rfl rfl ?_
          refine gr_no rfl rfl rfl ?_
          refine gr_no rfl rfl rfl ?_
          refine gr_no rfl rfl rfl ?_
          (first | refine gr_rd rfl rfl rfl (rd_pick_t rfl rfl) ?_ | refine gr_rd rfl rfl rfl (rd_pick_f rfl rfl) ?_)
          refine gr_nil ?_
          refine gk_then ?_
          refine gc_yes rfl ?_
          refine gc_seq ?_
          refine gc_seqr [(.mv, 0)] rfl ?_
          refine gr_rd rfl rfl rfl (rd_assign rfl) ?_
          refine gr_nil ?_
          refine gk_then ?_
          refine gc_ret ?_
          refine gk_ret_then ?_
          refine gk_result (L' := L) (.inl rfl) _ (res1 rfl rfl) (by repeat (first | exact List.Sublist.refl _ | apply List.Sublist.cons_cons | apply List.Sublist.cons | apply List.Sublist.append (List.Sublist.refl _) | refine List.Sublist.trans ?_ (List.sublist_append_right _ _))) (by first | exact Gh.le_refl _ | assumption | exact Gh.le_trans (by assumption) (by assumption)) ?_
          refine ⟨?_, rfl, rfl⟩
          congr 1
          rw [Bool.eq_iff_iff, goodDraft_iff]
          have hzl := zN_le d.ref
          simp only [beq_iff_eq, beq_eq_false_iff_ne, bne_iff_ne, bne_eq_false_iff_eq, Bool.not_eq_true', Bool.not_eq_false', decide_eq_true_iff, decide_eq_false_iff_not, nil_len, zN_iff, ne_eq, Bool.false_eq_true, iff_false, false_iff, not_and, not_or, true_iff, iff_true, Bool.not_not, Decidable.not_not] at * <;> omega
        · skip
          refine gr_rd rfl rfl rfl (rd_fieldAddr Tryd.fa36_2 rfl) ?_
          refine gr_rd rfl rfl rfl (rd_load1 Tryd.to9 rfl (by first | (apply Cells.own; (repeat (first | exact List.mem_cons_self | apply List.mem_cons_of_mem)); done) | assumption) (by first | rfl | assumption | exact encOp_37 _ _ | exact encOp_36 _ _ | exact encOp_35 _ _ | exact encOp_0 _ _ | exact encOp_1 _ _ | exact encOp_2 _ _ | exact encDraft_0 _ | exact encDraft_1 _ | exact encDraft_2 _ | simp)) ?_
          refine gr_rd rfl rfl rfl (rd_lenL Tryd.underlying9 rfl) ?_
          refine gr_rd rfl rfl rfl (rd_gtr rfl rfl) ?_
          (first | refine gr_rd rfl rfl rfl (rd_pick_t rfl rfl) ?_ | refine gr_rd rfl rfl rfl (rd_pick_f rfl rfl) ?_)
          refine gr_nil ?_
          refine gk_then ?_
          refine gc_cond rfl (fun hc0 => ?_) (fun hc0 => ?_)
          · skip
            refine gc_seq ?_
            refine gc_seqr [(.mv, 0)] rfl ?_
            refine gr_rd rfl rfl rfl (rd_assign rfl) ?_
            refine gr_nil ?_
            refine gk_then ?_
            refine gc_ret ?_
            refine gk_ret_then ?_
            refine gk_result (L' := L) (.inl rfl) _ (res1 rfl rfl) (by repeat (first | exact List.Sublist.refl _ | apply List.Sublist.cons_cons | apply List.Sublist.cons | apply List.Sublist.append (List.Sublist.refl _) | refine List.Sublist.trans ?_ (List.sublist_append_right _ _))) (by first | exact Gh.le_refl _ | assumption | exact Gh.le_trans (by assumption) (by assumption)) ?_
            refine ⟨?_, rfl, rfl⟩
            congr 1
            rw [Bool.eq_iff_iff, goodDraft_iff]
            have hzl := zN_le d.ref
            simp only [beq_iff_eq, beq_eq_false_iff_ne, bne_iff_ne, bne_eq_false_iff_eq, Bool.not_eq_true', Bool.not_eq_false', decide_eq_true_iff, decide_eq_false_iff_not, nil_len, zN_iff, ne_eq, Bool.false_eq_true, iff_false, false_iff, not_and, not_or, true_iff, iff_true, Bool.not_not, Decidable.not_not] at * <;> omega
          · skip
            refine gc_skip ?_
            refine gk_then ?_
            refine gc_seq ?_
            refine gc_seqr [(.mv, 0), (.mv, 1), (.mv, 2), (.mv, 3), (.mv, 4)] rfl ?_
            refine gr_rd rfl rfl rfl (rd_fieldAddr Tryd.fa36_3 rfl) ?_
            refine gr_rd rfl rfl rfl (rd_loadA Tryd.ta34 rfl (Cells.own List.mem_cons_self) (encDraft_seg_ref d) (encId_length _)) ?_
            refine gr_rd rfl rfl rfl (zero_build (zl := encId Nm.zero) Tryd.underlying34 Tryd.zeroValue34 rfl Tryd.sizeOf5) ?_
            refine gr_rd rfl rfl rfl (rd_arrEq Tryd.tb34 (by first | exact Nm.len _ | assumption | simp) (by first | exact Nm.len _ | assumption | simp) rfl rfl) ?_
            refine gr_rd rfl rfl rfl (rd_assign rfl) ?_
            refine gr_nil ?_
            refine gk_then ?_
            refine gc_seq ?_
            refine gc_seq ?_
            refine gc_seqr [(.mv, 0), (.mv, 1), (.mv, 2)] rfl ?_
            refine gr_rd rfl rfl rfl (rd_fieldAddr Tryd.fa36_0 rfl) ?_
            refine gr_rd rfl rfl rfl (rd_load1 Tryd.to3 rfl (by first | (apply Cells.own; (repeat (first | exact List.mem_cons_self | apply List.mem_cons_of_mem)); done) | assumption) (by first | rfl | assumption | exact encOp_37 _ _ | exact encOp_36 _ _ | exact encOp_35 _ _ | exact encOp_0 _ _ | exact encOp_1 _ _ | exact encOp_2 _ _ | exact encDraft_0 _ | exact encDraft_1 _ | exact encDraft_2 _ | simp)) ?_
            refine gr_rd rfl rfl rfl (rd_leq rfl rfl) ?_
            refine gr_nil ?_
            refine gk_then ?_
            refine gc_cond rfl (fun hc1 => ?_) (fun hc1 => ?_)
            · skip
              refine gc_seq ?_
              refine gc_seqr [(.mv, 0), (.mv, 1)] rfl ?_
              refine gr_rd rfl rfl rfl (rd_move rfl) ?_
              refine gr_rd rfl rfl rfl (rd_assign rfl) ?_
              refine gr_nil ?_
              refine gk_then ?_
              refine gc_ret ?_
              refine gk_ret_then ?_
              refine gk_result (L' := L) (.inl rfl) _ (res1 rfl rfl) (by repeat (first | exact List.Sublist.refl _ | apply List.Sublist.cons_cons | apply List.Sublist.cons | apply List.Sublist.append (List.Sublist.refl _) | refine List.Sublist.trans ?_ (List.sublist_append_right _ _))) (by first | exact Gh.le_refl _ | assumption | exact Gh.le_trans (by assumption) (by assumption)) ?_
              refine ⟨?_, rfl, rfl⟩
              congr 1
              rw [Bool.eq_iff_iff, goodDraft_iff]
              have hzl := zN_le d.ref
              simp only [beq_iff_eq, beq_eq_false_iff_ne, bne_iff_ne, bne_eq_false_iff_eq, Bool.not_eq_true', Bool.not_eq_false', decide_eq_true_iff, decide_eq_false_iff_not, nil_len, zN_iff, ne_eq, Bool.false_eq_true, iff_false, false_iff, not_and, not_or, true_iff, iff_true, Bool.not_not, Decidable.not_not] at * <;> omega
            · skip
              refine gc_skip ?_
              refine gk_then ?_
              refine gc_seq ?_
              refine gc_seqr [(.mv, 0), (.mv, 1), (.mv, 2), (.mv, 3), (.mv, 4), (.mv, 5), (.mv, 6), (.mv, 7), (.mv, 8), (.mv, 9), (.mv, 10), (.mv, 11), (.mv, 12)] rfl ?_
              refine gr_rd rfl rfl rfl (rd_fieldAddr Tryd.fa36_0 rfl) ?_
              refine gr_rd rfl rfl rfl (rd_load1 Tryd.to3 rfl (by first | (apply Cells.own; (repeat (first | exact List.mem_cons_self | apply List.mem_cons_of_mem)); done) | assumption) (by first | rfl | assumption | exact encOp_37 _ _ | exact encOp_36 _ _ | exact encOp_35 _ _ | exact encOp_0 _ _ | exact encOp_1 _ _ | exact encOp_2 _ _ | exact encDraft_0 _ | exact encDraft_1 _ | exact encDraft_2 _ | simp)) ?_
              refine gr_rd rfl rfl rfl (rd_eql rfl rfl) ?_
              refine gr_rd rfl rfl rfl (rd_move rfl) ?_
              refine gr_split rfl (fun hg3 => ?_) (fun hg3 => ?_)
              · skip
                refine gr_no rfl rfl rfl ?_
                refine gr_no rfl rfl rfl ?_
                refine gr_no rfl rfl rfl ?_
                refine gr_no rfl rfl rfl ?_
                refine gr_no rfl rfl rfl ?_
                refine gr_no rfl rfl rfl ?_
                refine gr_no rfl rfl rfl ?_
                (first | refine gr_rd rfl rfl rfl (rd_pick_t rfl rfl) ?_ | refine gr_rd rfl rfl rfl (rd_pick_f rfl rfl) ?_)
                refine gr_rd rfl rfl rfl (rd_assign rfl) ?_
                refine gr_nil ?_
                refine gk_then ?_
                refine gc_ret ?_
                refine gk_result (L' := L) (.inl rfl) _ (res1 rfl rfl) (by repeat (first | exact List.Sublist.refl _ | apply List.Sublist.cons_cons | apply List.Sublist.cons | apply List.Sublist.append (List.Sublist.refl _) | refine List.Sublist.trans ?_ (List.sublist_append_right _ _))) (by first | exact Gh.le_refl _ | assumption | exact Gh.le_trans (by assumption) (by assumption)) ?_
                refine ⟨?_, rfl, rfl⟩
                congr 1
                rw [Bool.eq_iff_iff, goodDraft_iff]
                have hzl := zN_le d.ref
                simp only [beq_iff_eq, beq_eq_false_iff_ne, bne_iff_ne, bne_eq_false_iff_eq, Bool.not_eq_true', Bool.not_eq_false', decide_eq_true_iff, decide_eq_false_iff_not, nil_len, zN_iff, ne_eq, Bool.false_eq_true, iff_false, false_iff, not_and, not_or, true_iff, iff_true, Bool.not_not, Decidable.not_not] at * <;> omega
              · skip
                refine gr_rd rfl rfl rfl (rd_move rfl) ?_
                refine gr_rd rfl rfl rfl (rd_not rfl) ?_
                refine gr_rd rfl rfl rfl (rd_move rfl) ?_
                refine gr_split rfl (fun hg6 => ?_) (fun hg6 => ?_)
                · skip
                  refine gr_rd rfl rfl rfl (rd_fieldAddr Tryd.fa36_2 rfl) ?_
                  refine gr_rd rfl rfl rfl (rd_load1 Tryd.to9 rfl (by first | (apply Cells.own; (repeat (first | exact List.mem_cons_self | apply List.mem_cons_of_mem)); done) | assumption) (by first | rfl | assumption | exact encOp_37 _ _ | exact encOp_36 _ _ | exact encOp_35 _ _ | exact encOp_0 _ _ | exact encOp_1 _ _ | exact encOp_2 _ _ | exact encDraft_0 _ | exact encDraft_1 _ | exact encDraft_2 _ | simp)) ?_
                  refine gr_rd rfl rfl rfl (rd_strEqL rfl rfl) ?_
                  (first | refine gr_rd rfl rfl rfl (rd_pick_t rfl rfl) ?_ | refine gr_rd rfl rfl rfl (rd_pick_f rfl rfl) ?_)
                  (first | refine gr_rd rfl rfl rfl (rd_pick_t rfl rfl) ?_ | refine gr_rd rfl rfl rfl (rd_pick_f rfl rfl) ?_)
                  refine gr_rd rfl rfl rfl (rd_assign rfl) ?_
                  refine gr_nil ?_
                  refine gk_then ?_
                  refine gc_ret ?_
                  refine gk_result (L' := L) (.inl rfl) _ (res1 rfl rfl) (by repeat (first | exact List.Sublist.refl _ | apply List.Sublist.cons_cons | apply List.Sublist.cons | apply List.Sublist.append (List.Sublist.refl _) | refine List.Sublist.trans ?_ (List.sublist_append_right _ _))) (by first | exact Gh.le_refl _ | assumption | exact Gh.le_trans (by assumption) (by assumption)) ?_
                  refine ⟨?_, rfl, rfl⟩
                  congr 1
                  rw [Bool.eq_iff_iff, goodDraft_iff]
                  have hzl := zN_le d.ref
                  simp only [beq_iff_eq, beq_eq_false_iff_ne, bne_iff_ne, bne_eq_false_iff_eq, Bool.not_eq_true', Bool.not_eq_false', decide_eq_true_iff, decide_eq_false_iff_not, nil_len, zN_iff, ne_eq, Bool.false_eq_true, iff_false, false_iff, not_and, not_or, true_iff, iff_true, Bool.not_not, Decidable.not_not] at * <;> omega
                · skip
                  refine gr_no rfl rfl rfl ?_
                  refine gr_no rfl rfl rfl ?_
                  refine gr_no rfl rfl rfl ?_
                  (first | refine gr_rd rfl rfl rfl (rd_pick_t rfl rfl) ?_ | refine gr_rd rfl rfl rfl (rd_pick_f rfl rfl) ?_)
                  (first | refine gr_rd rfl rfl rfl (rd_pick_t rfl rfl) ?_ | refine gr_rd rfl rfl rfl (rd_pick_f rfl rfl) ?_)
                  refine gr_rd rfl rfl rfl (rd_assign rfl) ?_
                  refine gr_nil ?_
                  refine gk_then ?_
                  refine gc_ret ?_
                  refine gk_result (L' := L) (.inl rfl) _ (res1 rfl rfl) (by repeat (first | exact List.Sublist.refl _ | apply List.Sublist.cons_cons | apply List.Sublist.cons | apply List.Sublist.append (List.Sublist.refl _) | refine List.Sublist.trans ?_ (List.sublist_append_right _ _))) (by first | exact Gh.le_refl _ | assumption | exact Gh.le_trans (by assumption) (by assumption)) ?_
                  refine ⟨?_, rfl, rfl⟩
                  congr 1
                  rw [Bool.eq_iff_iff, goodDraft_iff]
                  have hzl := zN_le d.ref
                  simp only [beq_iff_eq, beq_eq_false_iff_ne, bne_iff_ne, bne_eq_false_iff_eq, Bool.not_eq_true', Bool.not_eq_false', decide_eq_true_iff, decide_eq_false_iff_not, nil_len, zN_iff, ne_eq, Bool.false_eq_true, iff_false, false_iff, not_and, not_or, true_iff, iff_true, Bool.not_not, Decidable.not_not] at * <;> omega
theorem good_cc (H : Gh) (L : Chunks) (o : POp) (pv : Value) (hp : Ids H L pv o.preds) :
    CC Tryd.prog 42 #[ag (encOp o pv)] H L (fun v H' L' => v = .bool (good o) ∧ H = H' ∧ L = L') := by
  obtain ⟨A, bv, ov, cv, lv, rfl, hcv, hnv, hv0, hv1, hv2⟩ := hp
  refine cc_of Tryd.func42 rfl (Nat.le_of_ble_eq_true rfl) ?_
  simp only [Tryd.ntmps42]
  refine gc_seq ?_
  refine gc_seqr [(.nm, 0), (.mv, 1)] rfl ?_
  refine gr_nx rfl rfl rfl (nx_box rfl rfl) ?_; rintro _ _ _ _ ⟨b1, rfl, rfl, rfl⟩; refine ⟨trivial, ?_⟩
  refine gr_rd rfl rfl rfl (rd_assign rfl) ?_
  refine gr_nil ?_
  refine gk_then ?_
  refine gc_seq ?_
  refine gc_seq ?_
  refine gc_seqr [(.mv, 0), (.mv, 1), (.nm, 2), (.mv, 3), (.mv, 4), (.mv, 5), (.mv, 6), (.mv, 7), (.mv, 8), (.mv, 9), (.mv, 10), (.mv, 11), (.mv, 12), (.mv, 13), (.mv, 14), (.mv, 15), (.mv, 16), (.mv, 17), (.mv, 18), (.mv, 19), (.mv, 20), (.mv, 21), (.mv, 22), (.mv, 23), (.mv, 24), (.mv, 25), (.mv, 26), (.mv, 27), (.mv, 28), (.mv, 29), (.mv, 30), (.mv, 31), (.mv, 32), (.mv, 33), (.mv, 34)] rfl ?_
  refine gr_rd rfl rfl rfl (rd_fieldAddr Tryd.fa38_0 rfl) ?_
  refine gr_rd rfl rfl rfl (rd_loadA Tryd.ta36 rfl (Cells.own List.mem_cons_self) (encOp_seg_draft o _) (encDraft_length _)) ?_
  refine gr_nx rfl rfl rfl (nx_call Tryd.en61 rfl (goodDraft_cc _ _ o.draft)) ?_; rintro v6 H' L' hle ⟨rfl, rfl, rfl⟩; refine ⟨trivial, ?_⟩
  refine gr_rd rfl rfl rfl (rd_not rfl) ?_
  refine gr_rd rfl rfl rfl (rd_move rfl) ?_
  refine gr_split rfl (fun hg4 => ?_) (fun hg4 => ?_)
  · skip
    refine gr_no rfl rfl rfl ?_
    refine gr_no rfl rfl rfl ?_
    refine gr_no rfl rfl rfl ?_
    (first | refine gr_rd rfl rfl rfl (rd_pick_t rfl rfl) ?_ | refine gr_rd rfl rfl rfl (rd_pick_f rfl rfl) ?_)
    refine gr_rd rfl rfl rfl (rd_move rfl) ?_
    refine gr_no rfl rfl rfl ?_
    refine gr_no rfl rfl rfl ?_
    refine gr_no rfl rfl rfl ?_
    (first | refine gr_rd rfl rfl rfl (rd_pick_t rfl rfl) ?_ | refine gr_rd rfl rfl rfl (rd_pick_f rfl rfl) ?_)
    refine gr_rd rfl rfl rfl (rd_move rfl) ?_
    refine gr_no rfl rfl rfl ?_
    refine gr_no rfl rfl rfl ?_
    refine gr_no rfl rfl rfl ?_
    (first | refine gr_rd rfl rfl rfl (rd_pick_t rfl rfl) ?_ | refine gr_rd rfl rfl rfl (rd_pick_f rfl rfl) ?_)
    refine gr_rd rfl rfl rfl (rd_move rfl) ?_
    refine gr_no rfl rfl rfl ?_
    refine gr_no rfl rfl rfl ?_
    refine gr_no rfl rfl rfl ?_
    refine gr_no rfl rfl rfl ?_
    (first | refine gr_rd rfl rfl rfl (rd_pick_t rfl rfl) ?_ | refine gr_rd rfl rfl rfl (rd_pick_f rfl rfl) ?_)
    refine gr_rd rfl rfl rfl (rd_move rfl) ?_
    refine gr_no rfl rfl rfl ?_
    refine gr_no rfl rfl rfl ?_
    refine gr_no rfl rfl rfl ?_
    refine gr_no rfl rfl rfl ?_
    refine gr_no rfl rfl rfl ?_
    refine gr_no rfl rfl rfl ?_
    refine gr_no rfl rfl rfl ?_
    refine gr_no rfl rfl rfl ?_
    (first | refine gr_rd rfl rfl rfl (rd_pick_t rfl rfl) ?_ | refine gr_rd rfl rfl rfl (rd_pick_f rfl rfl) ?_)
    refine gr_nil ?_
    refine gk_then ?_
    refine gc_yes rfl ?_
    refine gc_seq ?_
    refine gc_seqr [(.mv, 0)] rfl ?_
    refine gr_rd rfl rfl rfl (rd_assign rfl) ?_
    refine gr_nil ?_
    refine gk_then ?_
    refine gc_ret ?_
    refine gk_ret_then ?_
    refine gk_result (L' := L) (.inl rfl) _ (res1 rfl rfl) (by repeat (first | exact List.Sublist.refl _ | apply List.Sublist.cons_cons | apply List.Sublist.cons | apply List.Sublist.append (List.Sublist.refl _) | refine List.Sublist.trans ?_ (List.sublist_append_right _ _))) (by first | exact Gh.le_refl _ | assumption | exact Gh.le_trans (by assumption) (by assumption)) ?_
    refine ⟨?_, rfl, rfl⟩
    congr 1
    rw [Bool.eq_iff_iff, good_iff]
    have hgl := gN_le o.draft
    have hrl := rN_le o.preds
    simp only [beq_iff_eq, beq_eq_false_iff_ne, iN_t, iN_f, bN_t, bN_f, Bool.not_eq_true', Bool.not_eq_false', decide_eq_true_iff, decide_eq_false_iff_not, gN_t, gN_f, ne_eq, Bool.false_eq_true, iff_false, false_iff, true_iff, iff_true, Bool.not_not, Decidable.not_not] at * <;> omega
  · skip
    refine gr_rd rfl rfl rfl (rd_fieldAddr Tryd.fa38_1 rfl) ?_
    refine gr_rd rfl rfl rfl (rd_load1 Tryd.to3 rfl (by first | (apply Cells.own; (repeat (first | exact List.mem_cons_self | apply List.mem_cons_of_mem)); done) | assumption) (by first | rfl | assumption | exact encOp_37 _ _ | exact encOp_36 _ _ | exact encOp_35 _ _ | exact encOp_0 _ _ | exact encOp_1 _ _ | exact encOp_2 _ _ | exact encDraft_0 _ | exact encDraft_1 _ | exact encDraft_2 _ | simp)) ?_
    refine gr_rd rfl rfl rfl (rd_lss rfl rfl) ?_
    (first | refine gr_rd rfl rfl rfl (rd_pick_t rfl rfl) ?_ | refine gr_rd rfl rfl rfl (rd_pick_f rfl rfl) ?_)
    refine gr_rd rfl rfl rfl (rd_move rfl) ?_
    refine gr_split rfl (fun hg9 => ?_) (fun hg9 => ?_)
    · skip
      refine gr_no rfl rfl rfl ?_
      refine gr_no rfl rfl rfl ?_
      refine gr_no rfl rfl rfl ?_
      (first | refine gr_rd rfl rfl rfl (rd_pick_t rfl rfl) ?_ | refine gr_rd rfl rfl rfl (rd_pick_f rfl rfl) ?_)
      refine gr_rd rfl rfl rfl (rd_move rfl) ?_
      refine gr_no rfl rfl rfl ?_
      refine gr_no rfl rfl rfl ?_
      refine gr_no rfl rfl rfl ?_
      (first | refine gr_rd rfl rfl rfl (rd_pick_t rfl rfl) ?_ | refine gr_rd rfl rfl rfl (rd_pick_f rfl rfl) ?_)
      refine gr_rd rfl rfl rfl (rd_move rfl) ?_
      refine gr_no rfl rfl rfl ?_
      refine gr_no rfl rfl rfl ?_
      refine gr_no rfl rfl rfl ?_
      refine gr_no rfl rfl rfl ?_
      (first | refine gr_rd rfl rfl rfl (rd_pick_t rfl rfl) ?_ | refine gr_rd rfl rfl rfl (rd_pick_f rfl rfl) ?_)
      refine gr_rd rfl rfl rfl (rd_move rfl) ?_
      refine gr_no rfl rfl rfl ?_
      refine gr_no rfl rfl rfl ?_
      refine gr_no rfl rfl rfl ?_
      refine gr_no rfl rfl rfl ?_
      refine gr_no rfl rfl rfl ?_
      refine gr_no rfl rfl rfl ?_
      refine gr_no rfl rfl rfl ?_
      refine gr_no rfl rfl rfl ?_
      (first | refine gr_rd rfl rfl rfl (rd_pick_t rfl rfl) ?_ | refine gr_rd rfl rfl rfl (rd_pick_f rfl rfl) ?_)
      refine gr_nil ?_
      refine gk_then ?_
      refine gc_yes rfl ?_
      refine gc_seq ?_
      refine gc_seqr [(.mv, 0)] rfl ?_
      refine gr_rd rfl rfl rfl (rd_assign rfl) ?_
      refine gr_nil ?_
      refine gk_then ?_
      refine gc_ret ?_
      refine gk_ret_then ?_
      refine gk_result (L' := L) (.inl rfl) _ (res1 rfl rfl) (by repeat (first | exact List.Sublist.refl _ | apply List.Sublist.cons_cons | apply List.Sublist.cons | apply List.Sublist.append (List.Sublist.refl _) | refine List.Sublist.trans ?_ (List.sublist_append_right _ _))) (by first | exact Gh.le_refl _ | assumption | exact Gh.le_trans (by assumption) (by assumption)) ?_
      refine ⟨?_, rfl, rfl⟩
      congr 1
      rw [Bool.eq_iff_iff, good_iff]
      have hgl := gN_le o.draft
      have hrl := rN_le o.preds
      simp only [beq_iff_eq, beq_eq_false_iff_ne, iN_t, iN_f, bN_t, bN_f, Bool.not_eq_true', Bool.not_eq_false', decide_eq_true_iff, decide_eq_false_iff_not, gN_t, gN_f, ne_eq, Bool.false_eq_true, iff_false, false_iff, true_iff, iff_true, Bool.not_not, Decidable.not_not] at * <;> omega
    · skip
      refine gr_rd rfl rfl rfl (rd_fieldAddr Tryd.fa38_1 rfl) ?_
      refine gr_rd rfl rfl rfl (rd_load1 Tryd.to3 rfl (by first | (apply Cells.own; (repeat (first | exact List.mem_cons_self | apply List.mem_cons_of_mem)); done) | assumption) (by first | rfl | assumption | exact encOp_37 _ _ | exact encOp_36 _ _ | exact encOp_35 _ _ | exact encOp_0 _ _ | exact encOp_1 _ _ | exact encOp_2 _ _ | exact encDraft_0 _ | exact encDraft_1 _ | exact encDraft_2 _ | simp)) ?_
      refine gr_rd rfl rfl rfl (rd_geq rfl rfl) ?_
      (first | refine gr_rd rfl rfl rfl (rd_pick_t rfl rfl) ?_ | refine gr_rd rfl rfl rfl (rd_pick_f rfl rfl) ?_)
      refine gr_rd rfl rfl rfl (rd_move rfl) ?_
      refine gr_split rfl (fun hg14 => ?_) (fun hg14 => ?_)
      · skip
        refine gr_no rfl rfl rfl ?_
        refine gr_no rfl rfl rfl ?_
        refine gr_no rfl rfl rfl ?_
        (first | refine gr_rd rfl rfl rfl (rd_pick_t rfl rfl) ?_ | refine gr_rd rfl rfl rfl (rd_pick_f rfl rfl) ?_)
        refine gr_rd rfl rfl rfl (rd_move rfl) ?_
        refine gr_no rfl rfl rfl ?_
        refine gr_no rfl rfl rfl ?_
        refine gr_no rfl rfl rfl ?_
        refine gr_no rfl rfl rfl ?_
        (first | refine gr_rd rfl rfl rfl (rd_pick_t rfl rfl) ?_ | refine gr_rd rfl rfl rfl (rd_pick_f rfl rfl) ?_)
        refine gr_rd rfl rfl rfl (rd_move rfl) ?_
        refine gr_no rfl rfl rfl ?_
        refine gr_no rfl rfl rfl ?_
        refine gr_no rfl rfl rfl ?_
        refine gr_no rfl rfl rfl ?_
        refine gr_no rfl rfl rfl ?_
        refine gr_no rfl rfl rfl ?_
        refine gr_no rfl rfl rfl ?_
        refine gr_no rfl rfl rfl ?_
        (first | refine gr_rd rfl rfl rfl (rd_pick_t rfl rfl) ?_ | refine gr_rd rfl rfl rfl (rd_pick_f rfl rfl) ?_)
        refine gr_nil ?_
        refine gk_then ?_
        refine gc_yes rfl ?_
        refine gc_seq ?_
        refine gc_seqr [(.mv, 0)] rfl ?_
        refine gr_rd rfl rfl rfl (rd_assign rfl) ?_
        refine gr_nil ?_
        refine gk_then ?_
        refine gc_ret ?_
        refine gk_ret_then ?_
        refine gk_result (L' := L) (.inl rfl) _ (res1 rfl rfl) (by repeat (first | exact List.Sublist.refl _ | apply List.Sublist.cons_cons | apply List.Sublist.cons | apply List.Sublist.append (List.Sublist.refl _) | refine List.Sublist.trans ?_ (List.sublist_append_right _ _))) (by first | exact Gh.le_refl _ | assumption | exact Gh.le_trans (by assumption) (by assumption)) ?_
        refine ⟨?_, rfl, rfl⟩
        congr 1
        rw [Bool.eq_iff_iff, good_iff]
        have hgl := gN_le o.draft
        have hrl := rN_le o.preds
        simp only [beq_iff_eq, beq_eq_false_iff_ne, iN_t, iN_f, bN_t, bN_f, Bool.not_eq_true', Bool.not_eq_false', decide_eq_true_iff, decide_eq_false_iff_not, gN_t, gN_f, ne_eq, Bool.false_eq_true, iff_false, false_iff, true_iff, iff_true, Bool.not_not, Decidable.not_not] at * <;> omega
      · skip
        refine gr_rd rfl rfl rfl (rd_fieldAddr Tryd.fa38_2 rfl) ?_
        refine gr_rd rfl rfl rfl (rd_load1 Tryd.to3 rfl (by first | (apply Cells.own; (repeat (first | exact List.mem_cons_self | apply List.mem_cons_of_mem)); done) | assumption) (by first | rfl | assumption | exact encOp_37 _ _ | exact encOp_36 _ _ | exact encOp_35 _ _ | exact encOp_0 _ _ | exact encOp_1 _ _ | exact encOp_2 _ _ | exact encDraft_0 _ | exact encDraft_1 _ | exact encDraft_2 _ | simp)) ?_
        refine gr_rd rfl rfl rfl (rd_lss rfl rfl) ?_
        (first | refine gr_rd rfl rfl rfl (rd_pick_t rfl rfl) ?_ | refine gr_rd rfl rfl rfl (rd_pick_f rfl rfl) ?_)
        refine gr_rd rfl rfl rfl (rd_move rfl) ?_
        refine gr_split rfl (fun hg19 => ?_) (fun hg19 => ?_)
        · skip
          refine gr_no rfl rfl rfl ?_
          refine gr_no rfl rfl rfl ?_
          refine gr_no rfl rfl rfl ?_
          refine gr_no rfl rfl rfl ?_
          (first | refine gr_rd rfl rfl rfl (rd_pick_t rfl rfl) ?_ | refine gr_rd rfl rfl rfl (rd_pick_f rfl rfl) ?_)
          refine gr_rd rfl rfl rfl (rd_move rfl) ?_
          refine gr_no rfl rfl rfl ?_
          refine gr_no rfl rfl rfl ?_
          refine gr_no rfl rfl rfl ?_
          refine gr_no rfl rfl rfl ?_
          refine gr_no rfl rfl rfl ?_
          refine gr_no rfl rfl rfl ?_
          refine gr_no rfl rfl rfl ?_
          refine gr_no rfl rfl rfl ?_
          (first | refine gr_rd rfl rfl rfl (rd_pick_t rfl rfl) ?_ | refine gr_rd rfl rfl rfl (rd_pick_f rfl rfl) ?_)
          refine gr_nil ?_
          refine gk_then ?_
          refine gc_yes rfl ?_
          refine gc_seq ?_
          refine gc_seqr [(.mv, 0)] rfl ?_
          refine gr_rd rfl rfl rfl (rd_assign rfl) ?_
          refine gr_nil ?_
          refine gk_then ?_
          refine gc_ret ?_
          refine gk_ret_then ?_
          refine gk_result (L' := L) (.inl rfl) _ (res1 rfl rfl) (by repeat (first | exact List.Sublist.refl _ | apply List.Sublist.cons_cons | apply List.Sublist.cons | apply List.Sublist.append (List.Sublist.refl _) | refine List.Sublist.trans ?_ (List.sublist_append_right _ _))) (by first | exact Gh.le_refl _ | assumption | exact Gh.le_trans (by assumption) (by assumption)) ?_
          refine ⟨?_, rfl, rfl⟩
          congr 1
          rw [Bool.eq_iff_iff, good_iff]
          have hgl := gN_le o.draft
          have hrl := rN_le o.preds
          simp only [beq_iff_eq, beq_eq_false_iff_ne, iN_t, iN_f, bN_t, bN_f, Bool.not_eq_true', Bool.not_eq_false', decide_eq_true_iff, decide_eq_false_iff_not, gN_t, gN_f, ne_eq, Bool.false_eq_true, iff_false, false_iff, true_iff, iff_true, Bool.not_not, Decidable.not_not] at * <;> omega
        · skip
          refine gr_rd rfl rfl rfl (rd_fieldAddr Tryd.fa38_3 rfl) ?_
          refine gr_rd rfl rfl rfl (rd_load1 Tryd.to29 rfl (by first | (apply Cells.own; (repeat (first | exact List.mem_cons_self | apply List.mem_cons_of_mem)); done) | assumption) (by first | rfl | assumption | exact encOp_37 _ _ | exact encOp_36 _ _ | exact encOp_35 _ _ | exact encOp_0 _ _ | exact encOp_1 _ _ | exact encOp_2 _ _ | exact encDraft_0 _ | exact encDraft_1 _ | exact encDraft_2 _ | simp)) ?_
          refine gr_rd rfl rfl rfl (rd_lenS Tryd.underlying29 rfl) ?_
          refine gr_rd rfl rfl rfl (rd_gtr rfl rfl) ?_
          (first | refine gr_rd rfl rfl rfl (rd_pick_t rfl rfl) ?_ | refine gr_rd rfl rfl rfl (rd_pick_f rfl rfl) ?_)
          refine gr_rd rfl rfl rfl (rd_move rfl) ?_
          refine gr_split rfl (fun hg25 => ?_) (fun hg25 => ?_)
          · skip
            refine gr_no rfl rfl rfl ?_
            refine gr_no rfl rfl rfl ?_
            refine gr_no rfl rfl rfl ?_
            refine gr_no rfl rfl rfl ?_
            refine gr_no rfl rfl rfl ?_
            refine gr_no rfl rfl rfl ?_
            refine gr_no rfl rfl rfl ?_
            refine gr_no rfl rfl rfl ?_
            (first | refine gr_rd rfl rfl rfl (rd_pick_t rfl rfl) ?_ | refine gr_rd rfl rfl rfl (rd_pick_f rfl rfl) ?_)
            refine gr_nil ?_
            refine gk_then ?_
            refine gc_yes rfl ?_
            refine gc_seq ?_
            refine gc_seqr [(.mv, 0)] rfl ?_
            refine gr_rd rfl rfl rfl (rd_assign rfl) ?_
            refine gr_nil ?_
            refine gk_then ?_
            refine gc_ret ?_
            refine gk_ret_then ?_
            refine gk_result (L' := L) (.inl rfl) _ (res1 rfl rfl) (by repeat (first | exact List.Sublist.refl _ | apply List.Sublist.cons_cons | apply List.Sublist.cons | apply List.Sublist.append (List.Sublist.refl _) | refine List.Sublist.trans ?_ (List.sublist_append_right _ _))) (by first | exact Gh.le_refl _ | assumption | exact Gh.le_trans (by assumption) (by assumption)) ?_
            refine ⟨?_, rfl, rfl⟩
            congr 1
            rw [Bool.eq_iff_iff, good_iff]
            have hgl := gN_le o.draft
            have hrl := rN_le o.preds
            simp only [beq_iff_eq, beq_eq_false_iff_ne, iN_t, iN_f, bN_t, bN_f, Bool.not_eq_true', Bool.not_eq_false', decide_eq_true_iff, decide_eq_false_iff_not, gN_t, gN_f, ne_eq, Bool.false_eq_true, iff_false, false_iff, true_iff, iff_true, Bool.not_not, Decidable.not_not] at * <;> omega
          · skip
            refine gr_rd rfl rfl rfl (rd_fieldAddr Tryd.fa38_3 rfl) ?_
            refine gr_rd rfl rfl rfl (rd_load1 Tryd.to29 rfl (by first | (apply Cells.own; (repeat (first | exact List.mem_cons_self | apply List.mem_cons_of_mem)); done) | assumption) (by first | rfl | assumption | exact encOp_37 _ _ | exact encOp_36 _ _ | exact encOp_35 _ _ | exact encOp_0 _ _ | exact encOp_1 _ _ | exact encOp_2 _ _ | exact encDraft_0 _ | exact encDraft_1 _ | exact encDraft_2 _ | simp)) ?_
            refine gr_rd rfl rfl rfl (rd_lenS Tryd.underlying29 rfl) ?_
            refine gr_rd rfl rfl rfl (rd_eql rfl rfl) ?_
            refine gr_rd rfl rfl rfl (rd_fieldAddr Tryd.fa38_2 rfl) ?_
            refine gr_rd rfl rfl rfl (rd_load1 Tryd.to3 rfl (by first | (apply Cells.own; (repeat (first | exact List.mem_cons_self | apply List.mem_cons_of_mem)); done) | assumption) (by first | rfl | assumption | exact encOp_37 _ _ | exact encOp_36 _ _ | exact encOp_35 _ _ | exact encOp_0 _ _ | exact encOp_1 _ _ | exact encOp_2 _ _ | exact encDraft_0 _ | exact encDraft_1 _ | exact encDraft_2 _ | simp)) ?_
            refine gr_rd rfl rfl rfl (rd_eql rfl rfl) ?_
            refine gr_rd rfl rfl rfl (rd_boolNe Tryd.underlying4 rfl rfl) ?_
            (first | refine gr_rd rfl rfl rfl (rd_pick_t rfl rfl) ?_ | refine gr_rd rfl rfl rfl (rd_pick_f rfl rfl) ?_)
            refine gr_nil ?_
            refine gk_then ?_
            refine gc_cond rfl (fun hc0 => ?_) (fun hc0 => ?_)
            · skip
              refine gc_seq ?_
              refine gc_seqr [(.mv, 0)] rfl ?_
              refine gr_rd rfl rfl rfl (rd_assign rfl) ?_
              refine gr_nil ?_
              refine gk_then ?_
              refine gc_ret ?_
              refine gk_ret_then ?_
              refine gk_result (L' := L) (.inl rfl) _ (res1 rfl rfl) (by repeat (first | exact List.Sublist.refl _ | apply List.Sublist.cons_cons | apply List.Sublist.cons | apply List.Sublist.append (List.Sublist.refl _) | refine List.Sublist.trans ?_ (List.sublist_append_right _ _))) (by first | exact Gh.le_refl _ | assumption | exact Gh.le_trans (by assumption) (by assumption)) ?_
              refine ⟨?_, rfl, rfl⟩
              congr 1
              rw [Bool.eq_iff_iff, good_iff]
              have hgl := gN_le o.draft
              have hrl := rN_le o.preds
              simp only [beq_iff_eq, beq_eq_false_iff_ne, iN_t, iN_f, bN_t, bN_f, Bool.not_eq_true', Bool.not_eq_false', decide_eq_true_iff, decide_eq_false_iff_not, gN_t, gN_f, ne_eq, Bool.false_eq_true, iff_false, false_iff, true_iff, iff_true, Bool.not_not, Decidable.not_not] at * <;> omega
            · skip
              refine gc_skip ?_
              refine gk_then ?_
              refine gc_seq ?_
              refine gc_seq ?_
              refine gc_seqr [(.mv, 0)] rfl ?_
              refine gr_rd rfl rfl rfl (rd_assign rfl) ?_
              refine gr_nil ?_
              refine gk_then ?_
              refine gc_block ?_
              refine gc_loop (fun i : Nat => [(1, pt b1 0), (3, i64 i)]) (fun i H1 L1 => H = H1 ∧ (b1, .cells (encOp o (.slice A o.preds.length cv)).toArray 38 (0, 0)) :: L = L1 ∧ 1 ≤ i ∧ i ≤ o.preds.length + 1 ∧ ∀ j, j + 1 < i → cmp (o.preds.getD j Nm.zero) (o.preds.getD (j + 1) Nm.zero) < 0) (fun i => o.preds.length - i) (1) ?_ (by repeat (first | exact Subs.nil | refine Subs.cons rfl ?_)) ?_
              · exact ⟨rfl, rfl, Nat.le_refl _, by omega, fun j hj => by omega⟩
              · rintro i H1 L1 ⟨rfl, rfl, hi1, hi2, hri⟩
                refine gc_seq ?_
                refine gc_seq ?_
                refine gc_seqr [(.mv, 0), (.mv, 1), (.mv, 2), (.mv, 3), (.mv, 4)] rfl ?_
                refine gr_rd rfl rfl rfl (rd_move rfl) ?_
                refine gr_rd rfl rfl rfl (rd_fieldAddr Tryd.fa38_3 rfl) ?_
                refine gr_rd rfl rfl rfl (rd_load1 Tryd.to29 rfl (by first | (apply Cells.own; (repeat (first | exact List.mem_cons_self | apply List.mem_cons_of_mem)); done) | assumption) (by first | rfl | assumption | exact encOp_37 _ _ | exact encOp_36 _ _ | exact encOp_35 _ _ | exact encOp_0 _ _ | exact encOp_1 _ _ | exact encOp_2 _ _ | exact encDraft_0 _ | exact encDraft_1 _ | exact encDraft_2 _ | simp)) ?_
                refine gr_rd rfl rfl rfl (rd_lenS Tryd.underlying29 rfl) ?_
                refine gr_rd rfl rfl rfl (rd_lss rfl rfl) ?_
                refine gr_nil ?_
                refine gk_then ?_
                refine gc_cond rfl (fun hc1 => ?_) (fun hc1 => ?_)
                · have hlt : i < o.preds.length := by simpa using hc1
                  obtain ⟨hAe, hca, hsa⟩ := ids_at2 (i := (i : Int)) hv1 hv2 hlt rfl
                  obtain ⟨_, _, hsb⟩ := ids_at2 (i := (i : Int) - 1) (j := i - 1) hv1 hv2 (by omega) (by omega)
                  have hca1 := mono_cons (c := (b1, .cells (encOp o (.slice A o.preds.length cv)).toArray 38 (0, 0))) hca
                  refine gc_skip ?_
                  refine gk_then ?_
                  refine gc_seq ?_
                  refine gc_block ?_
                  refine gc_seq ?_
                  refine gc_draw Tryd.mixed [(.mv, 0), (.mv, 1), (.mv, 2), (.mv, 3), (.mv, 4), (.mv, 5), (.mv, 6), (.mv, 7), (.mv, 8), (.mv, 9), (.mv, 10), (.fin, 11), (.fin, 12)] (by decide +kernel) _ (List.Sublist.refl _) ?_
                  refine gr_rd rfl rfl rfl (rd_fieldAddr Tryd.fa38_3 rfl) ?_
                  refine gr_rd rfl rfl rfl (rd_load1 Tryd.to29 rfl (by first | (apply Cells.own; (repeat (first | exact List.mem_cons_self | apply List.mem_cons_of_mem)); done) | assumption) (by first | rfl | assumption | exact encOp_37 _ _ | exact encOp_36 _ _ | exact encOp_35 _ _ | exact encOp_0 _ _ | exact encOp_1 _ _ | exact encOp_2 _ _ | exact encDraft_0 _ | exact encDraft_1 _ | exact encDraft_2 _ | simp)) ?_
                  refine gr_rd rfl rfl rfl (rd_move rfl) ?_
                  (first | refine gr_rd rfl rfl rfl (rd_sub rfl rfl (IntWalk.i64_in _ (by omega))) ?_ | refine gr_rd rfl rfl rfl (rd_sub rfl rfl rfl) ?_)
                  refine gr_rd rfl rfl rfl (rd_indexS Tryd.underlying29 Tryd.sizeOf34 rfl rfl hAe (by omega) (by omega)) ?_
                  refine gr_rd rfl rfl rfl (rd_loadA Tryd.ta34 rfl hca1 hsb (encId_length _)) ?_
                  refine gr_rd rfl rfl rfl (rd_fieldAddr Tryd.fa38_3 rfl) ?_
                  refine gr_rd rfl rfl rfl (rd_load1 Tryd.to29 rfl (by first | (apply Cells.own; (repeat (first | exact List.mem_cons_self | apply List.mem_cons_of_mem)); done) | assumption) (by first | rfl | assumption | exact encOp_37 _ _ | exact encOp_36 _ _ | exact encOp_35 _ _ | exact encOp_0 _ _ | exact encOp_1 _ _ | exact encOp_2 _ _ | exact encDraft_0 _ | exact encDraft_1 _ | exact encDraft_2 _ | simp)) ?_
                  refine gr_rd rfl rfl rfl (rd_move rfl) ?_
                  refine gr_rd rfl rfl rfl (rd_indexS Tryd.underlying29 Tryd.sizeOf34 rfl rfl hAe (by omega) (by omega)) ?_
                  refine gr_rd rfl rfl rfl (rd_loadA Tryd.ta34 rfl hca1 hsa (encId_length _)) ?_
                  refine gr_fin rfl rfl rfl (nx_call Tryd.en50 rfl (cmp_cc _ _ _ _)) ?_; rintro v57 H' L' hle ⟨rfl, rfl, rfl⟩
                  (refine gr_fin rfl rfl rfl (Rd.nx (rd_geq rfl rfl)) ?_; rintro _ _ _ _ ⟨rfl, rfl, rfl⟩)
                  refine gr_nil ?_
                  refine gk_then ?_
                  refine gc_cond rfl (fun hc2 => ?_) (fun hc2 => ?_)
                  · have hr0 := rN_zero (l := o.preds) (j := i - 1) (by omega) (by rw [show i - 1 + 1 = i by omega]; simpa using hc2)
                    refine gc_seq ?_
                    refine gc_seqr [(.mv, 0)] rfl ?_
                    refine gr_rd rfl rfl rfl (rd_assign rfl) ?_
                    refine gr_nil ?_
                    refine gk_then ?_
                    refine gc_ret ?_
                    refine gk_ret_inBlock ?_
                    refine gk_ret_then ?_
                    refine gk_ret_then ?_
                    refine gk_ret_inBlock ?_
                    refine gk_ret_then ?_
                    refine gk_result (L' := L) (.inl rfl) _ (res1 rfl rfl) (by repeat (first | exact List.Sublist.refl _ | apply List.Sublist.cons_cons | apply List.Sublist.cons | apply List.Sublist.append (List.Sublist.refl _) | refine List.Sublist.trans ?_ (List.sublist_append_right _ _))) (by first | exact Gh.le_refl _ | assumption | exact Gh.le_trans (by assumption) (by assumption)) ?_
                    refine ⟨?_, rfl, rfl⟩
                    congr 1
                    rw [Bool.eq_iff_iff, good_iff]
                    have hgl := gN_le o.draft
                    have hrl := rN_le o.preds
                    simp only [beq_iff_eq, beq_eq_false_iff_ne, iN_t, iN_f, bN_t, bN_f, Bool.not_eq_true', Bool.not_eq_false', decide_eq_true_iff, decide_eq_false_iff_not, gN_t, gN_f, ne_eq, Bool.false_eq_true, iff_false, false_iff, true_iff, iff_true, Bool.not_not, Decidable.not_not] at * <;> omega
                  · skip
                    refine gc_skip ?_
                    refine gk_inBlock ?_
                    refine gk_then ?_
                    refine gc_seqr [(.mv, 0), (.mv, 1), (.mv, 2)] rfl ?_
                    refine gr_rd rfl rfl rfl (rd_move rfl) ?_
                    (first | refine gr_rd rfl rfl rfl (rd_add rfl rfl (IntWalk.i64_in _ (by omega))) ?_ | refine gr_rd rfl rfl rfl (rd_add rfl rfl rfl) ?_)
                    refine gr_rd rfl rfl rfl (rd_assign rfl) ?_
                    refine gr_nil ?_
                    refine gk_round (i + 1) (by omega) ⟨rfl, rfl, by omega, by omega, fun j hj => ?_⟩ (by repeat (first | exact Subs.nil | refine Subs.cons rfl ?_))
                    by_cases hji : j + 1 < i
                    · exact hri j hji
                    · obtain rfl : j = i - 1 := by omega
                      rw [show i - 1 + 1 = i by omega]
                      simpa using hc2
                · have hge : ¬ i < o.preds.length := by simpa using hc1
                  have hr1 := rN_one (l := o.preds) (fun j hj => hri j (by omega))
                  clear hri
                  refine gc_exit ?_
                  refine gk_exit_then ?_
                  refine gk_exit_then ?_
                  refine gk_here ?_
                  refine gk_then ?_
                  refine gc_seq ?_
                  refine gc_seqr [(.mv, 0)] rfl ?_
                  refine gr_rd rfl rfl rfl (rd_assign rfl) ?_
                  refine gr_nil ?_
                  refine gk_then ?_
                  refine gc_ret ?_
                  refine gk_result (L' := L) (.inl rfl) _ (res1 rfl rfl) (by repeat (first | exact List.Sublist.refl _ | apply List.Sublist.cons_cons | apply List.Sublist.cons | apply List.Sublist.append (List.Sublist.refl _) | refine List.Sublist.trans ?_ (List.sublist_append_right _ _))) (by first | exact Gh.le_refl _ | assumption | exact Gh.le_trans (by assumption) (by assumption)) ?_
                  refine ⟨?_, rfl, rfl⟩
                  congr 1
                  rw [Bool.eq_iff_iff, good_iff]
                  have hgl := gN_le o.draft
                  have hrl := rN_le o.preds
                  simp only [beq_iff_eq, beq_eq_false_iff_ne, iN_t, iN_f, bN_t, bN_f, Bool.not_eq_true', Bool.not_eq_false', decide_eq_true_iff, decide_eq_false_iff_not, gN_t, gN_f, ne_eq, Bool.false_eq_true, iff_false, false_iff, true_iff, iff_true, Bool.not_not, Decidable.not_not] at * <;> omega
theorem rgood_cc (H : Gh) (L : Chunks) (o : POp) (pv : Value) (hp : Ids H L pv o.preds) :
    CC Tryd.prog 53 #[ag (encOp o pv)] H L (fun v H' L' => v = .bool (good o) ∧ H = H' ∧ L = L') := by
  obtain ⟨A, bv, ov, cv, lv, rfl, hcv, hnv, hv0, hv1, hv2⟩ := hp
  refine cc_of Tryd.func53 rfl (Nat.le_of_ble_eq_true rfl) ?_
  simp only [Tryd.ntmps53]
  refine gc_seq ?_
  refine gc_seqr [(.nm, 0), (.mv, 1)] rfl ?_
  refine gr_nx rfl rfl rfl (nx_box rfl rfl) ?_; rintro _ _ _ _ ⟨b1, rfl, rfl, rfl⟩; refine ⟨trivial, ?_⟩
  refine gr_rd rfl rfl rfl (rd_assign rfl) ?_
  refine gr_nil ?_
  refine gk_then ?_
  refine gc_seq ?_
  refine gc_seq ?_
  refine gc_seqr [(.mv, 0), (.mv, 1), (.mv, 2), (.mv, 3)] rfl ?_
  refine gr_rd rfl rfl rfl (rd_fieldAddr Tryd.fa38_3 rfl) ?_
  refine gr_rd rfl rfl rfl (rd_load1 Tryd.to29 rfl (by first | (apply Cells.own; (repeat (first | exact List.mem_cons_self | apply List.mem_cons_of_mem)); done) | assumption) (by first | rfl | assumption | exact encOp_37 _ _ | exact encOp_36 _ _ | exact encOp_35 _ _ | exact encOp_0 _ _ | exact encOp_1 _ _ | exact encOp_2 _ _ | exact encDraft_0 _ | exact encDraft_1 _ | exact encDraft_2 _ | simp)) ?_
  refine gr_rd rfl rfl rfl (rd_lenS Tryd.underlying29 rfl) ?_
  refine gr_rd rfl rfl rfl (rd_move rfl) ?_
  refine gr_nil ?_
  refine gk_then ?_
  refine gc_block ?_
  refine gc_loop (fun i : Nat => [(1, pt b1 0), (6, i64 o.preds.length), (7, i64 i)]) (fun i H1 L1 => H = H1 ∧ (b1, .cells (encOp o (.slice A o.preds.length cv)).toArray 38 (0, 0)) :: L = L1 ∧ i ≤ o.preds.length ∧ ∀ j, j + 1 < i → cmp (o.preds.getD j Nm.zero) (o.preds.getD (j + 1) Nm.zero) < 0) (fun i => o.preds.length - i) (0) ?_ (by repeat (first | exact Subs.nil | refine Subs.cons rfl ?_)) ?_
  · exact ⟨rfl, rfl, Nat.zero_le _, fun j hj => by omega⟩
  · rintro i H1 L1 ⟨rfl, rfl, hi2, hri⟩
    refine gc_seq ?_
    refine gc_seqr [(.mv, 0)] rfl ?_
    refine gr_rd rfl rfl rfl (rd_lss rfl rfl) ?_
    refine gr_nil ?_
    refine gk_then ?_
    refine gc_seq ?_
    refine gc_cond rfl (fun hc0 => ?_) (fun hc0 => ?_)
    · have hlt : i < o.preds.length := by simpa using hc0
      obtain ⟨hAe, hca, hsa⟩ := ids_at2 (i := (i : Int)) hv1 hv2 hlt rfl
      have hca1 := mono_cons (c := (b1, .cells (encOp o (.slice A o.preds.length cv)).toArray 38 (0, 0))) hca
      refine gc_skip ?_
      refine gk_then ?_
      refine gc_seq ?_
      refine gc_block ?_
      refine gc_seq ?_
      refine gc_seqr [(.mv, 0), (.mv, 1)] rfl ?_
      refine gr_rd rfl rfl rfl (rd_move rfl) ?_
      refine gr_rd rfl rfl rfl (rd_assign rfl) ?_
      refine gr_nil ?_
      refine gk_then ?_
      refine gc_seq ?_
      refine gc_draw Tryd.mixed [(.mv, 0), (.mv, 1), (.mv, 2), (.mv, 3), (.mv, 4), (.mv, 5), (.mv, 6), (.mv, 7), (.mv, 8), (.mv, 9), (.mv, 10), (.mv, 11), (.mv, 12), (.mv, 13), (.fin, 14), (.fin, 15), (.fin, 16)] (by decide +kernel) _ (List.Sublist.refl _) ?_
      refine gr_rd rfl rfl rfl (rd_move rfl) ?_
      refine gr_rd rfl rfl rfl (rd_gtr rfl rfl) ?_
      refine gr_rd rfl rfl rfl (rd_move rfl) ?_
      refine gr_split rfl (fun hg2 => ?_) (fun hg2 => ?_)
      · have hi0 : 0 < i := by simpa using hg2
        obtain ⟨_, _, hsb⟩ := ids_at2 (i := (i : Int) - 1) (j := i - 1) hv1 hv2 (by omega) (by omega)
        refine gr_rd rfl rfl rfl (rd_fieldAddr Tryd.fa38_3 rfl) ?_
        refine gr_rd rfl rfl rfl (rd_load1 Tryd.to29 rfl (by first | (apply Cells.own; (repeat (first | exact List.mem_cons_self | apply List.mem_cons_of_mem)); done) | assumption) (by first | rfl | assumption | exact encOp_37 _ _ | exact encOp_36 _ _ | exact encOp_35 _ _ | exact encOp_0 _ _ | exact encOp_1 _ _ | exact encOp_2 _ _ | exact encDraft_0 _ | exact encDraft_1 _ | exact encDraft_2 _ | simp)) ?_
        refine gr_rd rfl rfl rfl (rd_move rfl) ?_
        (first | refine gr_rd rfl rfl rfl (rd_sub rfl rfl (IntWalk.i64_in _ (by omega))) ?_ | refine gr_rd rfl rfl rfl (rd_sub rfl rfl rfl) ?_)
        refine gr_rd rfl rfl rfl (rd_indexS Tryd.underlying29 Tryd.sizeOf34 rfl rfl hAe (by omega) (by omega)) ?_
        refine gr_rd rfl rfl rfl (rd_loadA Tryd.ta34 rfl hca1 hsb (encId_length _)) ?_
        refine gr_rd rfl rfl rfl (rd_fieldAddr Tryd.fa38_3 rfl) ?_
        refine gr_rd rfl rfl rfl (rd_load1 Tryd.to29 rfl (by first | (apply Cells.own; (repeat (first | exact List.mem_cons_self | apply List.mem_cons_of_mem)); done) | assumption) (by first | rfl | assumption | exact encOp_37 _ _ | exact encOp_36 _ _ | exact encOp_35 _ _ | exact encOp_0 _ _ | exact encOp_1 _ _ | exact encOp_2 _ _ | exact encDraft_0 _ | exact encDraft_1 _ | exact encDraft_2 _ | simp)) ?_
        refine gr_rd rfl rfl rfl (rd_move rfl) ?_
        refine gr_rd rfl rfl rfl (rd_indexS Tryd.underlying29 Tryd.sizeOf34 rfl rfl hAe (by omega) (by omega)) ?_
        refine gr_rd rfl rfl rfl (rd_loadA Tryd.ta34 rfl hca1 hsa (encId_length _)) ?_
        refine gr_fin rfl rfl rfl (nx_call Tryd.en57 rfl (rcmp_cc _ _ _ _)) ?_; rintro v24 H' L' hle ⟨rfl, rfl, rfl⟩
        (refine gr_fin rfl rfl rfl (Rd.nx (rd_neq rfl rfl)) ?_; rintro _ _ _ _ ⟨rfl, rfl, rfl⟩)
        (first | (refine gr_fin rfl rfl rfl (Rd.nx (rd_pick_t rfl rfl)) ?_; rintro _ _ _ _ ⟨rfl, rfl, rfl⟩) | (refine gr_fin rfl rfl rfl (Rd.nx (rd_pick_f rfl rfl)) ?_; rintro _ _ _ _ ⟨rfl, rfl, rfl⟩))
        refine gr_nil ?_
        refine gk_then ?_
        refine gc_cond rfl (fun hc1 => ?_) (fun hc1 => ?_)
        · have hr0 := rN_zero (l := o.preds) (j := i - 1) (by omega) (by rw [show i - 1 + 1 = i by omega]; intro h; have h3 := cmpB_range (o.preds.getD (i - 1) Nm.zero).bytes (o.preds.getD i Nm.zero).bytes; have h5 := iN_t.1 hc1; unfold cmp at h h5; omega)
          refine gc_seq ?_
          refine gc_seqr [(.mv, 0)] rfl ?_
          refine gr_rd rfl rfl rfl (rd_assign rfl) ?_
          refine gr_nil ?_
          refine gk_then ?_
          refine gc_ret ?_
          refine gk_ret_inBlock ?_
          refine gk_ret_then ?_
          refine gk_ret_then ?_
          refine gk_ret_inBlock ?_
          refine gk_ret_then ?_
          refine gk_result (L' := L) (.inl rfl) _ (res1 rfl rfl) (by repeat (first | exact List.Sublist.refl _ | apply List.Sublist.cons_cons | apply List.Sublist.cons | apply List.Sublist.append (List.Sublist.refl _) | refine List.Sublist.trans ?_ (List.sublist_append_right _ _))) (by first | exact Gh.le_refl _ | assumption | exact Gh.le_trans (by assumption) (by assumption)) ?_
          refine ⟨?_, rfl, rfl⟩
          congr 1
          rw [Bool.eq_iff_iff, good_iff]
          have hgl := gN_le o.draft
          have hrl := rN_le o.preds
          simp only [beq_iff_eq, beq_eq_false_iff_ne, iN_t, iN_f, bN_t, bN_f, Bool.not_eq_true', Bool.not_eq_false', decide_eq_true_iff, decide_eq_false_iff_not, gN_t, gN_f, ne_eq, Bool.false_eq_true, iff_false, false_iff, true_iff, iff_true, Bool.not_not, Decidable.not_not] at * <;> omega
        · skip
          refine gc_skip ?_
          refine gk_inBlock ?_
          refine gk_then ?_
          refine gc_seqr [(.mv, 0), (.mv, 1)] rfl ?_
          (first | refine gr_rd rfl rfl rfl (rd_add rfl rfl (IntWalk.i64_in _ (by omega))) ?_ | refine gr_rd rfl rfl rfl (rd_add rfl rfl rfl) ?_)
          refine gr_rd rfl rfl rfl (rd_move rfl) ?_
          refine gr_nil ?_
          refine gk_round (i + 1) (by omega) ⟨rfl, rfl, by omega, fun j hj => ?_⟩ (by repeat (first | exact Subs.nil | refine Subs.cons rfl ?_))
          by_cases hji : j + 1 < i
          · exact hri j hji
          · obtain rfl : j = i - 1 := by omega
            first
              | exact absurd hj (by have := of_decide_eq_false hg2; omega)
              | (rw [show i - 1 + 1 = i by omega]
                 have h3 := cmpB_range (o.preds.getD (i - 1) Nm.zero).bytes (o.preds.getD i Nm.zero).bytes
                 have h4 := iN_f.1 hc1
                 unfold cmp at h4 ⊢
                 omega)
      · skip
        refine gr_no rfl rfl rfl ?_
        refine gr_no rfl rfl rfl ?_
        refine gr_no rfl rfl rfl ?_
        refine gr_no rfl rfl rfl ?_
        refine gr_no rfl rfl rfl ?_
        refine gr_no rfl rfl rfl ?_
        refine gr_no rfl rfl rfl ?_
        refine gr_no rfl rfl rfl ?_
        refine gr_no rfl rfl rfl ?_
        refine gr_no rfl rfl rfl ?_
        refine gr_no rfl rfl rfl ?_
        refine gr_no rfl rfl rfl ?_
        refine gr_no rfl rfl rfl ?_
        (first | (refine gr_fin rfl rfl rfl (Rd.nx (rd_pick_t rfl rfl)) ?_; rintro _ _ _ _ ⟨rfl, rfl, rfl⟩) | (refine gr_fin rfl rfl rfl (Rd.nx (rd_pick_f rfl rfl)) ?_; rintro _ _ _ _ ⟨rfl, rfl, rfl⟩))
        refine gr_nil ?_
        refine gk_then ?_
        refine gc_no rfl ?_
        refine gc_skip ?_
        refine gk_inBlock ?_
        refine gk_then ?_
        refine gc_seqr [(.mv, 0), (.mv, 1)] rfl ?_
        (first | refine gr_rd rfl rfl rfl (rd_add rfl rfl (IntWalk.i64_in _ (by omega))) ?_ | refine gr_rd rfl rfl rfl (rd_add rfl rfl rfl) ?_)
        refine gr_rd rfl rfl rfl (rd_move rfl) ?_
        refine gr_nil ?_
        refine gk_round (i + 1) (by omega) ⟨rfl, rfl, by omega, fun j hj => ?_⟩ (by repeat (first | exact Subs.nil | refine Subs.cons rfl ?_))
        by_cases hji : j + 1 < i
        · exact hri j hji
        · obtain rfl : j = i - 1 := by omega
          first
            | exact absurd hj (by have := of_decide_eq_false hg2; omega)
            | (rw [show i - 1 + 1 = i by omega]
               have h3 := cmpB_range (o.preds.getD (i - 1) Nm.zero).bytes (o.preds.getD i Nm.zero).bytes
               have h4 := iN_f.1 hc1
               unfold cmp at h4 ⊢
               omega)
    · have hge : ¬ i < o.preds.length := by simpa using hc0
      have hr1 := rN_one (l := o.preds) (fun j hj => hri j (by omega))
      clear hri
      refine gc_exit ?_
      refine gk_exit_then ?_
      refine gk_exit_then ?_
      refine gk_here ?_
      refine gk_then ?_
      refine gc_seq ?_
      refine gc_seq ?_
      refine gc_seqr [(.mv, 0), (.mv, 1), (.mv, 2), (.mv, 3), (.mv, 4), (.mv, 5), (.mv, 6), (.mv, 7), (.mv, 8), (.mv, 9), (.mv, 10), (.mv, 11), (.mv, 12), (.mv, 13), (.mv, 14), (.mv, 15), (.mv, 16), (.mv, 17), (.mv, 18), (.mv, 19), (.mv, 20), (.mv, 21), (.mv, 22), (.mv, 23), (.mv, 24), (.mv, 25)] rfl ?_
      refine gr_rd rfl rfl rfl (rd_fieldAddr Tryd.fa38_3 rfl) ?_
      refine gr_rd rfl rfl rfl (rd_load1 Tryd.to29 rfl (by first | (apply Cells.own; (repeat (first | exact List.mem_cons_self | apply List.mem_cons_of_mem)); done) | assumption) (by first | rfl | assumption | exact encOp_37 _ _ | exact encOp_36 _ _ | exact encOp_35 _ _ | exact encOp_0 _ _ | exact encOp_1 _ _ | exact encOp_2 _ _ | exact encDraft_0 _ | exact encDraft_1 _ | exact encDraft_2 _ | simp)) ?_
      refine gr_rd rfl rfl rfl (rd_lenS Tryd.underlying29 rfl) ?_
      refine gr_rd rfl rfl rfl (rd_eql rfl rfl) ?_
      refine gr_rd rfl rfl rfl (rd_move rfl) ?_
      refine gr_split rfl (fun hg4 => ?_) (fun hg4 => ?_)
      · skip
        refine gr_rd rfl rfl rfl (rd_fieldAddr Tryd.fa38_2 rfl) ?_
        refine gr_rd rfl rfl rfl (rd_load1 Tryd.to3 rfl (by first | (apply Cells.own; (repeat (first | exact List.mem_cons_self | apply List.mem_cons_of_mem)); done) | assumption) (by first | rfl | assumption | exact encOp_37 _ _ | exact encOp_36 _ _ | exact encOp_35 _ _ | exact encOp_0 _ _ | exact encOp_1 _ _ | exact encOp_2 _ _ | exact encDraft_0 _ | exact encDraft_1 _ | exact encDraft_2 _ | simp)) ?_
        refine gr_rd rfl rfl rfl (rd_neq rfl rfl) ?_
        (first | refine gr_rd rfl rfl rfl (rd_pick_t rfl rfl) ?_ | refine gr_rd rfl rfl rfl (rd_pick_f rfl rfl) ?_)
        refine gr_rd rfl rfl rfl (rd_move rfl) ?_
        refine gr_split rfl (fun hg9 => ?_) (fun hg9 => ?_)
        · skip
          refine gr_no rfl rfl rfl ?_
          refine gr_no rfl rfl rfl ?_
          refine gr_no rfl rfl rfl ?_
          refine gr_no rfl rfl rfl ?_
          refine gr_no rfl rfl rfl ?_
          refine gr_no rfl rfl rfl ?_
          refine gr_no rfl rfl rfl ?_
          refine gr_no rfl rfl rfl ?_
          refine gr_no rfl rfl rfl ?_
          (first | refine gr_rd rfl rfl rfl (rd_pick_t rfl rfl) ?_ | refine gr_rd rfl rfl rfl (rd_pick_f rfl rfl) ?_)
          refine gr_rd rfl rfl rfl (rd_move rfl) ?_
          refine gr_no rfl rfl rfl ?_
          refine gr_no rfl rfl rfl ?_
          refine gr_no rfl rfl rfl ?_
          refine gr_no rfl rfl rfl ?_
          (first | refine gr_rd rfl rfl rfl (rd_pick_t rfl rfl) ?_ | refine gr_rd rfl rfl rfl (rd_pick_f rfl rfl) ?_)
          refine gr_nil ?_
          refine gk_then ?_
          refine gc_yes rfl ?_
          refine gc_seq ?_
          refine gc_seqr [(.mv, 0)] rfl ?_
          refine gr_rd rfl rfl rfl (rd_assign rfl) ?_
          refine gr_nil ?_
          refine gk_then ?_
          refine gc_ret ?_
          refine gk_ret_then ?_
          refine gk_result (L' := L) (.inl rfl) _ (res1 rfl rfl) (by repeat (first | exact List.Sublist.refl _ | apply List.Sublist.cons_cons | apply List.Sublist.cons | apply List.Sublist.append (List.Sublist.refl _) | refine List.Sublist.trans ?_ (List.sublist_append_right _ _))) (by first | exact Gh.le_refl _ | assumption | exact Gh.le_trans (by assumption) (by assumption)) ?_
          refine ⟨?_, rfl, rfl⟩
          congr 1
          rw [Bool.eq_iff_iff, good_iff]
          have hgl := gN_le o.draft
          have hrl := rN_le o.preds
          simp only [beq_iff_eq, beq_eq_false_iff_ne, iN_t, iN_f, bN_t, bN_f, Bool.not_eq_true', Bool.not_eq_false', decide_eq_true_iff, decide_eq_false_iff_not, gN_t, gN_f, ne_eq, Bool.false_eq_true, iff_false, false_iff, true_iff, iff_true, Bool.not_not, Decidable.not_not] at * <;> omega
        · skip
          refine gr_rd rfl rfl rfl (rd_fieldAddr Tryd.fa38_3 rfl) ?_
          refine gr_rd rfl rfl rfl (rd_load1 Tryd.to29 rfl (by first | (apply Cells.own; (repeat (first | exact List.mem_cons_self | apply List.mem_cons_of_mem)); done) | assumption) (by first | rfl | assumption | exact encOp_37 _ _ | exact encOp_36 _ _ | exact encOp_35 _ _ | exact encOp_0 _ _ | exact encOp_1 _ _ | exact encOp_2 _ _ | exact encDraft_0 _ | exact encDraft_1 _ | exact encDraft_2 _ | simp)) ?_
          refine gr_rd rfl rfl rfl (rd_lenS Tryd.underlying29 rfl) ?_
          refine gr_rd rfl rfl rfl (rd_gtr rfl rfl) ?_
          refine gr_rd rfl rfl rfl (rd_move rfl) ?_
          refine gr_split rfl (fun hg14 => ?_) (fun hg14 => ?_)
          · skip
            refine gr_rd rfl rfl rfl (rd_fieldAddr Tryd.fa38_2 rfl) ?_
            refine gr_rd rfl rfl rfl (rd_load1 Tryd.to3 rfl (by first | (apply Cells.own; (repeat (first | exact List.mem_cons_self | apply List.mem_cons_of_mem)); done) | assumption) (by first | rfl | assumption | exact encOp_37 _ _ | exact encOp_36 _ _ | exact encOp_35 _ _ | exact encOp_0 _ _ | exact encOp_1 _ _ | exact encOp_2 _ _ | exact encDraft_0 _ | exact encDraft_1 _ | exact encDraft_2 _ | simp)) ?_
            refine gr_rd rfl rfl rfl (rd_lss rfl rfl) ?_
            (first | refine gr_rd rfl rfl rfl (rd_pick_t rfl rfl) ?_ | refine gr_rd rfl rfl rfl (rd_pick_f rfl rfl) ?_)
            (first | refine gr_rd rfl rfl rfl (rd_pick_t rfl rfl) ?_ | refine gr_rd rfl rfl rfl (rd_pick_f rfl rfl) ?_)
            refine gr_rd rfl rfl rfl (rd_move rfl) ?_
            refine gr_split rfl (fun hg20 => ?_) (fun hg20 => ?_)
            · skip
              refine gr_no rfl rfl rfl ?_
              refine gr_no rfl rfl rfl ?_
              refine gr_no rfl rfl rfl ?_
              refine gr_no rfl rfl rfl ?_
              (first | refine gr_rd rfl rfl rfl (rd_pick_t rfl rfl) ?_ | refine gr_rd rfl rfl rfl (rd_pick_f rfl rfl) ?_)
              refine gr_nil ?_
              refine gk_then ?_
              refine gc_yes rfl ?_
              refine gc_seq ?_
              refine gc_seqr [(.mv, 0)] rfl ?_
              refine gr_rd rfl rfl rfl (rd_assign rfl) ?_
              refine gr_nil ?_
              refine gk_then ?_
              refine gc_ret ?_
              refine gk_ret_then ?_
              refine gk_result (L' := L) (.inl rfl) _ (res1 rfl rfl) (by repeat (first | exact List.Sublist.refl _ | apply List.Sublist.cons_cons | apply List.Sublist.cons | apply List.Sublist.append (List.Sublist.refl _) | refine List.Sublist.trans ?_ (List.sublist_append_right _ _))) (by first | exact Gh.le_refl _ | assumption | exact Gh.le_trans (by assumption) (by assumption)) ?_
              refine ⟨?_, rfl, rfl⟩
              congr 1
              rw [Bool.eq_iff_iff, good_iff]
              have hgl := gN_le o.draft
              have hrl := rN_le o.preds
              simp only [beq_iff_eq, beq_eq_false_iff_ne, iN_t, iN_f, bN_t, bN_f, Bool.not_eq_true', Bool.not_eq_false', decide_eq_true_iff, decide_eq_false_iff_not, gN_t, gN_f, ne_eq, Bool.false_eq_true, iff_false, false_iff, true_iff, iff_true, Bool.not_not, Decidable.not_not] at * <;> omega
            · skip
              refine gr_rd rfl rfl rfl (rd_fieldAddr Tryd.fa38_3 rfl) ?_
              refine gr_rd rfl rfl rfl (rd_load1 Tryd.to29 rfl (by first | (apply Cells.own; (repeat (first | exact List.mem_cons_self | apply List.mem_cons_of_mem)); done) | assumption) (by first | rfl | assumption | exact encOp_37 _ _ | exact encOp_36 _ _ | exact encOp_35 _ _ | exact encOp_0 _ _ | exact encOp_1 _ _ | exact encOp_2 _ _ | exact encDraft_0 _ | exact encDraft_1 _ | exact encDraft_2 _ | simp)) ?_
              refine gr_rd rfl rfl rfl (rd_lenS Tryd.underlying29 rfl) ?_
              refine gr_rd rfl rfl rfl (rd_gtr rfl rfl) ?_
              (first | refine gr_rd rfl rfl rfl (rd_pick_t rfl rfl) ?_ | refine gr_rd rfl rfl rfl (rd_pick_f rfl rfl) ?_)
              refine gr_nil ?_
              refine gk_then ?_
              refine gc_cond rfl (fun hc2 => ?_) (fun hc2 => ?_)
              · skip
                refine gc_seq ?_
                refine gc_seqr [(.mv, 0)] rfl ?_
                refine gr_rd rfl rfl rfl (rd_assign rfl) ?_
                refine gr_nil ?_
                refine gk_then ?_
                refine gc_ret ?_
                refine gk_ret_then ?_
                refine gk_result (L' := L) (.inl rfl) _ (res1 rfl rfl) (by repeat (first | exact List.Sublist.refl _ | apply List.Sublist.cons_cons | apply List.Sublist.cons | apply List.Sublist.append (List.Sublist.refl _) | refine List.Sublist.trans ?_ (List.sublist_append_right _ _))) (by first | exact Gh.le_refl _ | assumption | exact Gh.le_trans (by assumption) (by assumption)) ?_
                refine ⟨?_, rfl, rfl⟩
                congr 1
                rw [Bool.eq_iff_iff, good_iff]
                have hgl := gN_le o.draft
                have hrl := rN_le o.preds
                simp only [beq_iff_eq, beq_eq_false_iff_ne, iN_t, iN_f, bN_t, bN_f, Bool.not_eq_true', Bool.not_eq_false', decide_eq_true_iff, decide_eq_false_iff_not, gN_t, gN_f, ne_eq, Bool.false_eq_true, iff_false, false_iff, true_iff, iff_true, Bool.not_not, Decidable.not_not] at * <;> omega
              · skip
                refine gc_skip ?_
                refine gk_then ?_
                refine gc_seq ?_
                refine gc_seqr [(.mv, 0), (.mv, 1), (.nm, 2), (.mv, 3), (.mv, 4), (.mv, 5), (.mv, 6), (.mv, 7), (.mv, 8), (.mv, 9), (.mv, 10), (.mv, 11), (.mv, 12), (.mv, 13)] rfl ?_
                refine gr_rd rfl rfl rfl (rd_fieldAddr Tryd.fa38_0 rfl) ?_
                refine gr_rd rfl rfl rfl (rd_loadA Tryd.ta36 rfl (Cells.own List.mem_cons_self) (encOp_seg_draft o _) (encDraft_length _)) ?_
                refine gr_nx rfl rfl rfl (nx_call Tryd.en62 rfl (rgoodDraft_cc _ _ o.draft)) ?_; rintro v56 H' L' hle ⟨rfl, rfl, rfl⟩; refine ⟨trivial, ?_⟩
                refine gr_rd rfl rfl rfl (rd_move rfl) ?_
                refine gr_split rfl (fun hg3 => ?_) (fun hg3 => ?_)
                · skip
                  refine gr_rd rfl rfl rfl (rd_fieldAddr Tryd.fa38_1 rfl) ?_
                  refine gr_rd rfl rfl rfl (rd_load1 Tryd.to3 rfl (by first | (apply Cells.own; (repeat (first | exact List.mem_cons_self | apply List.mem_cons_of_mem)); done) | assumption) (by first | rfl | assumption | exact encOp_37 _ _ | exact encOp_36 _ _ | exact encOp_35 _ _ | exact encOp_0 _ _ | exact encOp_1 _ _ | exact encOp_2 _ _ | exact encDraft_0 _ | exact encDraft_1 _ | exact encDraft_2 _ | simp)) ?_
                  refine gr_rd rfl rfl rfl (rd_geq rfl rfl) ?_
                  (first | refine gr_rd rfl rfl rfl (rd_pick_t rfl rfl) ?_ | refine gr_rd rfl rfl rfl (rd_pick_f rfl rfl) ?_)
                  refine gr_rd rfl rfl rfl (rd_move rfl) ?_
                  refine gr_split rfl (fun hg8 => ?_) (fun hg8 => ?_)
                  · skip
                    refine gr_rd rfl rfl rfl (rd_fieldAddr Tryd.fa38_1 rfl) ?_
                    refine gr_rd rfl rfl rfl (rd_load1 Tryd.to3 rfl (by first | (apply Cells.own; (repeat (first | exact List.mem_cons_self | apply List.mem_cons_of_mem)); done) | assumption) (by first | rfl | assumption | exact encOp_37 _ _ | exact encOp_36 _ _ | exact encOp_35 _ _ | exact encOp_0 _ _ | exact encOp_1 _ _ | exact encOp_2 _ _ | exact encDraft_0 _ | exact encDraft_1 _ | exact encDraft_2 _ | simp)) ?_
                    refine gr_rd rfl rfl rfl (rd_leq rfl rfl) ?_
                    (first | refine gr_rd rfl rfl rfl (rd_pick_t rfl rfl) ?_ | refine gr_rd rfl rfl rfl (rd_pick_f rfl rfl) ?_)
                    refine gr_rd rfl rfl rfl (rd_assign rfl) ?_
                    refine gr_nil ?_
                    refine gk_then ?_
                    refine gc_ret ?_
                    refine gk_result (L' := L) (.inl rfl) _ (res1 rfl rfl) (by repeat (first | exact List.Sublist.refl _ | apply List.Sublist.cons_cons | apply List.Sublist.cons | apply List.Sublist.append (List.Sublist.refl _) | refine List.Sublist.trans ?_ (List.sublist_append_right _ _))) (by first | exact Gh.le_refl _ | assumption | exact Gh.le_trans (by assumption) (by assumption)) ?_
                    refine ⟨?_, rfl, rfl⟩
                    congr 1
                    rw [Bool.eq_iff_iff, good_iff]
                    have hgl := gN_le o.draft
                    have hrl := rN_le o.preds
                    simp only [beq_iff_eq, beq_eq_false_iff_ne, iN_t, iN_f, bN_t, bN_f, Bool.not_eq_true', Bool.not_eq_false', decide_eq_true_iff, decide_eq_false_iff_not, gN_t, gN_f, ne_eq, Bool.false_eq_true, iff_false, false_iff, true_iff, iff_true, Bool.not_not, Decidable.not_not] at * <;> omega
                  · skip
                    refine gr_no rfl rfl rfl ?_
                    refine gr_no rfl rfl rfl ?_
                    refine gr_no rfl rfl rfl ?_
                    (first | refine gr_rd rfl rfl rfl (rd_pick_t rfl rfl) ?_ | refine gr_rd rfl rfl rfl (rd_pick_f rfl rfl) ?_)
                    refine gr_rd rfl rfl rfl (rd_assign rfl) ?_
                    refine gr_nil ?_
                    refine gk_then ?_
                    refine gc_ret ?_
                    refine gk_result (L' := L) (.inl rfl) _ (res1 rfl rfl) (by repeat (first | exact List.Sublist.refl _ | apply List.Sublist.cons_cons | apply List.Sublist.cons | apply List.Sublist.append (List.Sublist.refl _) | refine List.Sublist.trans ?_ (List.sublist_append_right _ _))) (by first | exact Gh.le_refl _ | assumption | exact Gh.le_trans (by assumption) (by assumption)) ?_
                    refine ⟨?_, rfl, rfl⟩
                    congr 1
                    rw [Bool.eq_iff_iff, good_iff]
                    have hgl := gN_le o.draft
                    have hrl := rN_le o.preds
                    simp only [beq_iff_eq, beq_eq_false_iff_ne, iN_t, iN_f, bN_t, bN_f, Bool.not_eq_true', Bool.not_eq_false', decide_eq_true_iff, decide_eq_false_iff_not, gN_t, gN_f, ne_eq, Bool.false_eq_true, iff_false, false_iff, true_iff, iff_true, Bool.not_not, Decidable.not_not] at * <;> omega
                · skip
                  refine gr_no rfl rfl rfl ?_
                  refine gr_no rfl rfl rfl ?_
                  refine gr_no rfl rfl rfl ?_
                  (first | refine gr_rd rfl rfl rfl (rd_pick_t rfl rfl) ?_ | refine gr_rd rfl rfl rfl (rd_pick_f rfl rfl) ?_)
                  refine gr_rd rfl rfl rfl (rd_move rfl) ?_
                  refine gr_no rfl rfl rfl ?_
                  refine gr_no rfl rfl rfl ?_
                  refine gr_no rfl rfl rfl ?_
                  (first | refine gr_rd rfl rfl rfl (rd_pick_t rfl rfl) ?_ | refine gr_rd rfl rfl rfl (rd_pick_f rfl rfl) ?_)
                  refine gr_rd rfl rfl rfl (rd_assign rfl) ?_
                  refine gr_nil ?_
                  refine gk_then ?_
                  refine gc_ret ?_
                  refine gk_result (L' := L) (.inl rfl) _ (res1 rfl rfl) (by repeat (first | exact List.Sublist.refl _ | apply List.Sublist.cons_cons | apply List.Sublist.cons | apply List.Sublist.append (List.Sublist.refl _) | refine List.Sublist.trans ?_ (List.sublist_append_right _ _))) (by first | exact Gh.le_refl _ | assumption | exact Gh.le_trans (by assumption) (by assumption)) ?_
                  refine ⟨?_, rfl, rfl⟩
                  congr 1
                  rw [Bool.eq_iff_iff, good_iff]
                  have hgl := gN_le o.draft
                  have hrl := rN_le o.preds
                  simp only [beq_iff_eq, beq_eq_false_iff_ne, iN_t, iN_f, bN_t, bN_f, Bool.not_eq_true', Bool.not_eq_false', decide_eq_true_iff, decide_eq_false_iff_not, gN_t, gN_f, ne_eq, Bool.false_eq_true, iff_false, false_iff, true_iff, iff_true, Bool.not_not, Decidable.not_not] at * <;> omega
          · skip
            refine gr_no rfl rfl rfl ?_
            refine gr_no rfl rfl rfl ?_
            refine gr_no rfl rfl rfl ?_
            (first | refine gr_rd rfl rfl rfl (rd_pick_t rfl rfl) ?_ | refine gr_rd rfl rfl rfl (rd_pick_f rfl rfl) ?_)
            (first | refine gr_rd rfl rfl rfl (rd_pick_t rfl rfl) ?_ | refine gr_rd rfl rfl rfl (rd_pick_f rfl rfl) ?_)
            refine gr_rd rfl rfl rfl (rd_move rfl) ?_
            refine gr_rd rfl rfl rfl (rd_fieldAddr Tryd.fa38_3 rfl) ?_
            refine gr_rd rfl rfl rfl (rd_load1 Tryd.to29 rfl (by first | (apply Cells.own; (repeat (first | exact List.mem_cons_self | apply List.mem_cons_of_mem)); done) | assumption) (by first | rfl | assumption | exact encOp_37 _ _ | exact encOp_36 _ _ | exact encOp_35 _ _ | exact encOp_0 _ _ | exact encOp_1 _ _ | exact encOp_2 _ _ | exact encDraft_0 _ | exact encDraft_1 _ | exact encDraft_2 _ | simp)) ?_
            refine gr_rd rfl rfl rfl (rd_lenS Tryd.underlying29 rfl) ?_
            refine gr_rd rfl rfl rfl (rd_gtr rfl rfl) ?_
            (first | refine gr_rd rfl rfl rfl (rd_pick_t rfl rfl) ?_ | refine gr_rd rfl rfl rfl (rd_pick_f rfl rfl) ?_)
            refine gr_nil ?_
            refine gk_then ?_
            refine gc_cond rfl (fun hc2 => ?_) (fun hc2 => ?_)
            · skip
              refine gc_seq ?_
              refine gc_seqr [(.mv, 0)] rfl ?_
              refine gr_rd rfl rfl rfl (rd_assign rfl) ?_
              refine gr_nil ?_
              refine gk_then ?_
              refine gc_ret ?_
              refine gk_ret_then ?_
              refine gk_result (L' := L) (.inl rfl) _ (res1 rfl rfl) (by repeat (first | exact List.Sublist.refl _ | apply List.Sublist.cons_cons | apply List.Sublist.cons | apply List.Sublist.append (List.Sublist.refl _) | refine List.Sublist.trans ?_ (List.sublist_append_right _ _))) (by first | exact Gh.le_refl _ | assumption | exact Gh.le_trans (by assumption) (by assumption)) ?_
              refine ⟨?_, rfl, rfl⟩
              congr 1
              rw [Bool.eq_iff_iff, good_iff]
              have hgl := gN_le o.draft
              have hrl := rN_le o.preds
              simp only [beq_iff_eq, beq_eq_false_iff_ne, iN_t, iN_f, bN_t, bN_f, Bool.not_eq_true', Bool.not_eq_false', decide_eq_true_iff, decide_eq_false_iff_not, gN_t, gN_f, ne_eq, Bool.false_eq_true, iff_false, false_iff, true_iff, iff_true, Bool.not_not, Decidable.not_not] at * <;> omega
            · skip
              refine gc_skip ?_
              refine gk_then ?_
              refine gc_seq ?_
              refine gc_seqr [(.mv, 0), (.mv, 1), (.nm, 2), (.mv, 3), (.mv, 4), (.mv, 5), (.mv, 6), (.mv, 7), (.mv, 8), (.mv, 9), (.mv, 10), (.mv, 11), (.mv, 12), (.mv, 13)] rfl ?_
              refine gr_rd rfl rfl rfl (rd_fieldAddr Tryd.fa38_0 rfl) ?_
              refine gr_rd rfl rfl rfl (rd_loadA Tryd.ta36 rfl (Cells.own List.mem_cons_self) (encOp_seg_draft o _) (encDraft_length _)) ?_
              refine gr_nx rfl rfl rfl (nx_call Tryd.en62 rfl (rgoodDraft_cc _ _ o.draft)) ?_; rintro v56 H' L' hle ⟨rfl, rfl, rfl⟩; refine ⟨trivial, ?_⟩
              refine gr_rd rfl rfl rfl (rd_move rfl) ?_
              refine gr_split rfl (fun hg3 => ?_) (fun hg3 => ?_)
              · skip
                refine gr_rd rfl rfl rfl (rd_fieldAddr Tryd.fa38_1 rfl) ?_
                refine gr_rd rfl rfl rfl (rd_load1 Tryd.to3 rfl (by first | (apply Cells.own; (repeat (first | exact List.mem_cons_self | apply List.mem_cons_of_mem)); done) | assumption) (by first | rfl | assumption | exact encOp_37 _ _ | exact encOp_36 _ _ | exact encOp_35 _ _ | exact encOp_0 _ _ | exact encOp_1 _ _ | exact encOp_2 _ _ | exact encDraft_0 _ | exact encDraft_1 _ | exact encDraft_2 _ | simp)) ?_
                refine gr_rd rfl rfl rfl (rd_geq rfl rfl) ?_
                (first | refine gr_rd rfl rfl rfl (rd_pick_t rfl rfl) ?_ | refine gr_rd rfl rfl rfl (rd_pick_f rfl rfl) ?_)
                refine gr_rd rfl rfl rfl (rd_move rfl) ?_
                refine gr_split rfl (fun hg8 => ?_) (fun hg8 => ?_)
                · skip
                  refine gr_rd rfl rfl rfl (rd_fieldAddr Tryd.fa38_1 rfl) ?_
                  refine gr_rd rfl rfl rfl (rd_load1 Tryd.to3 rfl (by first | (apply Cells.own; (repeat (first | exact List.mem_cons_self | apply List.mem_cons_of_mem)); done) | assumption) (by first | rfl | assumption | exact encOp_37 _ _ | exact encOp_36 _ _ | exact encOp_35 _ _ | exact encOp_0 _ _ | exact encOp_1 _ _ | exact encOp_2 _ _ | exact encDraft_0 _ | exact encDraft_1 _ | exact encDraft_2 _ | simp)) ?_
                  refine gr_rd rfl rfl rfl (rd_leq rfl rfl) ?_
                  (first | refine gr_rd rfl rfl rfl (rd_pick_t rfl rfl) ?_ | refine gr_rd rfl rfl rfl (rd_pick_f rfl rfl) ?_)
                  refine gr_rd rfl rfl rfl (rd_assign rfl) ?_
                  refine gr_nil ?_
                  refine gk_then ?_
                  refine gc_ret ?_
                  refine gk_result (L' := L) (.inl rfl) _ (res1 rfl rfl) (by repeat (first | exact List.Sublist.refl _ | apply List.Sublist.cons_cons | apply List.Sublist.cons | apply List.Sublist.append (List.Sublist.refl _) | refine List.Sublist.trans ?_ (List.sublist_append_right _ _))) (by first | exact Gh.le_refl _ | assumption | exact Gh.le_trans (by assumption) (by assumption)) ?_
                  refine ⟨?_, rfl, rfl⟩
                  congr 1
                  rw [Bool.eq_iff_iff, good_iff]
                  have hgl := gN_le o.draft
                  have hrl := rN_le o.preds
                  simp only [beq_iff_eq, beq_eq_false_iff_ne, iN_t, iN_f, bN_t, bN_f, Bool.not_eq_true', Bool.not_eq_false', decide_eq_true_iff, decide_eq_false_iff_not, gN_t, gN_f, ne_eq, Bool.false_eq_true, iff_false, false_iff, true_iff, iff_true, Bool.not_not, Decidable.not_not] at * <;> omega
                · skip
                  refine gr_no rfl rfl rfl ?_
                  refine gr_no rfl rfl rfl ?_
                  refine gr_no rfl rfl rfl ?_
                  (first | refine gr_rd rfl rfl rfl (rd_pick_t rfl rfl) ?_ | refine gr_rd rfl rfl rfl (rd_pick_f rfl rfl) ?_)
                  refine gr_rd rfl rfl rfl (rd_assign rfl) ?_
                  refine gr_nil ?_
                  refine gk_then ?_
                  refine gc_ret ?_
                  refine gk_result (L' := L) (.inl rfl) _ (res1 rfl rfl) (by repeat (first | exact List.Sublist.refl _ | apply List.Sublist.cons_cons | apply List.Sublist.cons | apply List.Sublist.append (List.Sublist.refl _) | refine List.Sublist.trans ?_ (List.sublist_append_right _ _))) (by first | exact Gh.le_refl _ | assumption | exact Gh.le_trans (by assumption) (by assumption)) ?_
                  refine ⟨?_, rfl, rfl⟩
                  congr 1
                  rw [Bool.eq_iff_iff, good_iff]
                  have hgl := gN_le o.draft
                  have hrl := rN_le o.preds
                  simp only [beq_iff_eq, beq_eq_false_iff_ne, iN_t, iN_f, bN_t, bN_f, Bool.not_eq_true', Bool.not_eq_false', decide_eq_true_iff, decide_eq_false_iff_not, gN_t, gN_f, ne_eq, Bool.false_eq_true, iff_false, false_iff, true_iff, iff_true, Bool.not_not, Decidable.not_not] at * <;> omega
              · skip
                refine gr_no rfl rfl rfl ?_
                refine gr_no rfl rfl rfl ?_
                refine gr_no rfl rfl rfl ?_
                (first | refine gr_rd rfl rfl rfl (rd_pick_t rfl rfl) ?_ | refine gr_rd rfl rfl rfl (rd_pick_f rfl rfl) ?_)
                refine gr_rd rfl rfl rfl (rd_move rfl) ?_
                refine gr_no rfl rfl rfl ?_
                refine gr_no rfl rfl rfl ?_
                refine gr_no rfl rfl rfl ?_
                (first | refine gr_rd rfl rfl rfl (rd_pick_t rfl rfl) ?_ | refine gr_rd rfl rfl rfl (rd_pick_f rfl rfl) ?_)
                refine gr_rd rfl rfl rfl (rd_assign rfl) ?_
                refine gr_nil ?_
                refine gk_then ?_
                refine gc_ret ?_
                refine gk_result (L' := L) (.inl rfl) _ (res1 rfl rfl) (by repeat (first | exact List.Sublist.refl _ | apply List.Sublist.cons_cons | apply List.Sublist.cons | apply List.Sublist.append (List.Sublist.refl _) | refine List.Sublist.trans ?_ (List.sublist_append_right _ _))) (by first | exact Gh.le_refl _ | assumption | exact Gh.le_trans (by assumption) (by assumption)) ?_
                refine ⟨?_, rfl, rfl⟩
                congr 1
                rw [Bool.eq_iff_iff, good_iff]
                have hgl := gN_le o.draft
                have hrl := rN_le o.preds
                simp only [beq_iff_eq, beq_eq_false_iff_ne, iN_t, iN_f, bN_t, bN_f, Bool.not_eq_true', Bool.not_eq_false', decide_eq_true_iff, decide_eq_false_iff_not, gN_t, gN_f, ne_eq, Bool.false_eq_true, iff_false, false_iff, true_iff, iff_true, Bool.not_not, Decidable.not_not] at * <;> omega
      · skip
        refine gr_no rfl rfl rfl ?_
        refine gr_no rfl rfl rfl ?_
        refine gr_no rfl rfl rfl ?_
        (first | refine gr_rd rfl rfl rfl (rd_pick_t rfl rfl) ?_ | refine gr_rd rfl rfl rfl (rd_pick_f rfl rfl) ?_)
        refine gr_rd rfl rfl rfl (rd_move rfl) ?_
        refine gr_rd rfl rfl rfl (rd_fieldAddr Tryd.fa38_3 rfl) ?_
        refine gr_rd rfl rfl rfl (rd_load1 Tryd.to29 rfl (by first | (apply Cells.own; (repeat (first | exact List.mem_cons_self | apply List.mem_cons_of_mem)); done) | assumption) (by first | rfl | assumption | exact encOp_37 _ _ | exact encOp_36 _ _ | exact encOp_35 _ _ | exact encOp_0 _ _ | exact encOp_1 _ _ | exact encOp_2 _ _ | exact encDraft_0 _ | exact encDraft_1 _ | exact encDraft_2 _ | simp)) ?_
        refine gr_rd rfl rfl rfl (rd_lenS Tryd.underlying29 rfl) ?_
        refine gr_rd rfl rfl rfl (rd_gtr rfl rfl) ?_
        refine gr_rd rfl rfl rfl (rd_move rfl) ?_
        refine gr_split rfl (fun hg14 => ?_) (fun hg14 => ?_)
        · skip
          refine gr_rd rfl rfl rfl (rd_fieldAddr Tryd.fa38_2 rfl) ?_
          refine gr_rd rfl rfl rfl (rd_load1 Tryd.to3 rfl (by first | (apply Cells.own; (repeat (first | exact List.mem_cons_self | apply List.mem_cons_of_mem)); done) | assumption) (by first | rfl | assumption | exact encOp_37 _ _ | exact encOp_36 _ _ | exact encOp_35 _ _ | exact encOp_0 _ _ | exact encOp_1 _ _ | exact encOp_2 _ _ | exact encDraft_0 _ | exact encDraft_1 _ | exact encDraft_2 _ | simp)) ?_
          refine gr_rd rfl rfl rfl (rd_lss rfl rfl) ?_
          (first | refine gr_rd rfl rfl rfl (rd_pick_t rfl rfl) ?_ | refine gr_rd rfl rfl rfl (rd_pick_f rfl rfl) ?_)
          (first | refine gr_rd rfl rfl rfl (rd_pick_t rfl rfl) ?_ | refine gr_rd rfl rfl rfl (rd_pick_f rfl rfl) ?_)
          refine gr_rd rfl rfl rfl (rd_move rfl) ?_
          refine gr_split rfl (fun hg20 => ?_) (fun hg20 => ?_)
          · skip
            refine gr_no rfl rfl rfl ?_
            refine gr_no rfl rfl rfl ?_
            refine gr_no rfl rfl rfl ?_
            refine gr_no rfl rfl rfl ?_
            (first | refine gr_rd rfl rfl rfl (rd_pick_t rfl rfl) ?_ | refine gr_rd rfl rfl rfl (rd_pick_f rfl rfl) ?_)
            refine gr_nil ?_
            refine gk_then ?_
            refine gc_yes rfl ?_
            refine gc_seq ?_
            refine gc_seqr [(.mv, 0)] rfl ?_
            refine gr_rd rfl rfl rfl (rd_assign rfl) ?_
            refine gr_nil ?_
            refine gk_then ?_
            refine gc_ret ?_
            refine gk_ret_then ?_
            refine gk_result (L' := L) (.inl rfl) _ (res1 rfl rfl) (by repeat (first | exact List.Sublist.refl _ | apply List.Sublist.cons_cons | apply List.Sublist.cons | apply List.Sublist.append (List.Sublist.refl _) | refine List.Sublist.trans ?_ (List.sublist_append_right _ _))) (by first | exact Gh.le_refl _ | assumption | exact Gh.le_trans (by assumption) (by assumption)) ?_
            refine ⟨?_, rfl, rfl⟩
            congr 1
            rw [Bool.eq_iff_iff, good_iff]
            have hgl := gN_le o.draft
            have hrl := rN_le o.preds
            simp only [beq_iff_eq, beq_eq_false_iff_ne, iN_t, iN_f, bN_t, bN_f, Bool.not_eq_true', Bool.not_eq_false', decide_eq_true_iff, decide_eq_false_iff_not, gN_t, gN_f, ne_eq, Bool.false_eq_true, iff_false, false_iff, true_iff, iff_true, Bool.not_not, Decidable.not_not] at * <;> omega
          · skip
            refine gr_rd rfl rfl rfl (rd_fieldAddr Tryd.fa38_3 rfl) ?_
            refine gr_rd rfl rfl rfl (rd_load1 Tryd.to29 rfl (by first | (apply Cells.own; (repeat (first | exact List.mem_cons_self | apply List.mem_cons_of_mem)); done) | assumption) (by first | rfl | assumption | exact encOp_37 _ _ | exact encOp_36 _ _ | exact encOp_35 _ _ | exact encOp_0 _ _ | exact encOp_1 _ _ | exact encOp_2 _ _ | exact encDraft_0 _ | exact encDraft_1 _ | exact encDraft_2 _ | simp)) ?_
            refine gr_rd rfl rfl rfl (rd_lenS Tryd.underlying29 rfl) ?_
            refine gr_rd rfl rfl rfl (rd_gtr rfl rfl) ?_
            (first | refine gr_rd rfl rfl rfl (rd_pick_t rfl rfl) ?_ | refine gr_rd rfl rfl rfl (rd_pick_f rfl rfl) ?_)
            refine gr_nil ?_
            refine gk_then ?_
            refine gc_cond rfl (fun hc2 => ?_) (fun hc2 => ?_)
            · skip
              refine gc_seq ?_
              refine gc_seqr [(.mv, 0)] rfl ?_
              refine gr_rd rfl rfl rfl (rd_assign rfl) ?_
              refine gr_nil ?_
              refine gk_then ?_
              refine gc_ret ?_
              refine gk_ret_then ?_
              refine gk_result (L' := L) (.inl rfl) _ (res1 rfl rfl) (by repeat (first | exact List.Sublist.refl _ | apply List.Sublist.cons_cons | apply List.Sublist.cons | apply List.Sublist.append (List.Sublist.refl _) | refine List.Sublist.trans ?_ (List.sublist_append_right _ _))) (by first | exact Gh.le_refl _ | assumption | exact Gh.le_trans (by assumption) (by assumption)) ?_
              refine ⟨?_, rfl, rfl⟩
              congr 1
              rw [Bool.eq_iff_iff, good_iff]
              have hgl := gN_le o.draft
              have hrl := rN_le o.preds
              simp only [beq_iff_eq, beq_eq_false_iff_ne, iN_t, iN_f, bN_t, bN_f, Bool.not_eq_true', Bool.not_eq_false', decide_eq_true_iff, decide_eq_false_iff_not, gN_t, gN_f, ne_eq, Bool.false_eq_true, iff_false, false_iff, true_iff, iff_true, Bool.not_not, Decidable.not_not] at * <;> omega
            · skip
              refine gc_skip ?_
              refine gk_then ?_
              refine gc_seq ?_
              refine gc_seqr [(.mv, 0), (.mv, 1), (.nm, 2), (.mv, 3), (.mv, 4), (.mv, 5), (.mv, 6), (.mv, 7), (.mv, 8), (.mv, 9), (.mv, 10), (.mv, 11), (.mv, 12), (.mv, 13)] rfl ?_
              refine gr_rd rfl rfl rfl (rd_fieldAddr Tryd.fa38_0 rfl) ?_
              refine gr_rd rfl rfl rfl (rd_loadA Tryd.ta36 rfl (Cells.own List.mem_cons_self) (encOp_seg_draft o _) (encDraft_length _)) ?_
              refine gr_nx rfl rfl rfl (nx_call Tryd.en62 rfl (rgoodDraft_cc _ _ o.draft)) ?_; rintro v56 H' L' hle ⟨rfl, rfl, rfl⟩; refine ⟨trivial, ?_⟩
              refine gr_rd rfl rfl rfl (rd_move rfl) ?_
              refine gr_split rfl (fun hg3 => ?_) (fun hg3 => ?_)
              · skip
                refine gr_rd rfl rfl rfl (rd_fieldAddr Tryd.fa38_1 rfl) ?_
                refine gr_rd rfl rfl rfl (rd_load1 Tryd.to3 rfl (by first | (apply Cells.own; (repeat (first | exact List.mem_cons_self | apply List.mem_cons_of_mem)); done) | assumption) (by first | rfl | assumption | exact encOp_37 _ _ | exact encOp_36 _ _ | exact encOp_35 _ _ | exact encOp_0 _ _ | exact encOp_1 _ _ | exact encOp_2 _ _ | exact encDraft_0 _ | exact encDraft_1 _ | exact encDraft_2 _ | simp)) ?_
                refine gr_rd rfl rfl rfl (rd_geq rfl rfl) ?_
                (first | refine gr_rd rfl rfl rfl (rd_pick_t rfl rfl) ?_ | refine gr_rd rfl rfl rfl (rd_pick_f rfl rfl) ?_)
                refine gr_rd rfl rfl rfl (rd_move rfl) ?_
                refine gr_split rfl (fun hg8 => ?_) (fun hg8 => ?_)
                · skip
                  refine gr_rd rfl rfl rfl (rd_fieldAddr Tryd.fa38_1 rfl) ?_
                  refine gr_rd rfl rfl rfl (rd_load1 Tryd.to3 rfl (by first | (apply Cells.own; (repeat (first | exact List.mem_cons_self | apply List.mem_cons_of_mem)); done) | assumption) (by first | rfl | assumption | exact encOp_37 _ _ | exact encOp_36 _ _ | exact encOp_35 _ _ | exact encOp_0 _ _ | exact encOp_1 _ _ | exact encOp_2 _ _ | exact encDraft_0 _ | exact encDraft_1 _ | exact encDraft_2 _ | simp)) ?_
                  refine gr_rd rfl rfl rfl (rd_leq rfl rfl) ?_
                  (first | refine gr_rd rfl rfl rfl (rd_pick_t rfl rfl) ?_ | refine gr_rd rfl rfl rfl (rd_pick_f rfl rfl) ?_)
                  refine gr_rd rfl rfl rfl (rd_assign rfl) ?_
                  refine gr_nil ?_
                  refine gk_then ?_
                  refine gc_ret ?_
                  refine gk_result (L' := L) (.inl rfl) _ (res1 rfl rfl) (by repeat (first | exact List.Sublist.refl _ | apply List.Sublist.cons_cons | apply List.Sublist.cons | apply List.Sublist.append (List.Sublist.refl _) | refine List.Sublist.trans ?_ (List.sublist_append_right _ _))) (by first | exact Gh.le_refl _ | assumption | exact Gh.le_trans (by assumption) (by assumption)) ?_
                  refine ⟨?_, rfl, rfl⟩
                  congr 1
                  rw [Bool.eq_iff_iff, good_iff]
                  have hgl := gN_le o.draft
                  have hrl := rN_le o.preds
                  simp only [beq_iff_eq, beq_eq_false_iff_ne, iN_t, iN_f, bN_t, bN_f, Bool.not_eq_true', Bool.not_eq_false', decide_eq_true_iff, decide_eq_false_iff_not, gN_t, gN_f, ne_eq, Bool.false_eq_true, iff_false, false_iff, true_iff, iff_true, Bool.not_not, Decidable.not_not] at * <;> omega
                · skip
                  refine gr_no rfl rfl rfl ?_
                  refine gr_no rfl rfl rfl ?_
                  refine gr_no rfl rfl rfl ?_
                  (first | refine gr_rd rfl rfl rfl (rd_pick_t rfl rfl) ?_ | refine gr_rd rfl rfl rfl (rd_pick_f rfl rfl) ?_)
                  refine gr_rd rfl rfl rfl (rd_assign rfl) ?_
                  refine gr_nil ?_
                  refine gk_then ?_
                  refine gc_ret ?_
                  refine gk_result (L' := L) (.inl rfl) _ (res1 rfl rfl) (by repeat (first | exact List.Sublist.refl _ | apply List.Sublist.cons_cons | apply List.Sublist.cons | apply List.Sublist.append (List.Sublist.refl _) | refine List.Sublist.trans ?_ (List.sublist_append_right _ _))) (by first | exact Gh.le_refl _ | assumption | exact Gh.le_trans (by assumption) (by assumption)) ?_
                  refine ⟨?_, rfl, rfl⟩
                  congr 1
                  rw [Bool.eq_iff_iff, good_iff]
                  have hgl := gN_le o.draft
                  have hrl := rN_le o.preds
                  simp only [beq_iff_eq, beq_eq_false_iff_ne, iN_t, iN_f, bN_t, bN_f, Bool.not_eq_true', Bool.not_eq_false', decide_eq_true_iff, decide_eq_false_iff_not, gN_t, gN_f, ne_eq, Bool.false_eq_true, iff_false, false_iff, true_iff, iff_true, Bool.not_not, Decidable.not_not] at * <;> omega
              · skip
                refine gr_no rfl rfl rfl ?_
                refine gr_no rfl rfl rfl ?_
                refine gr_no rfl rfl rfl ?_
                (first | refine gr_rd rfl rfl rfl (rd_pick_t rfl rfl) ?_ | refine gr_rd rfl rfl rfl (rd_pick_f rfl rfl) ?_)
                refine gr_rd rfl rfl rfl (rd_move rfl) ?_
                refine gr_no rfl rfl rfl ?_
                refine gr_no rfl rfl rfl ?_
                refine gr_no rfl rfl rfl ?_
                (first | refine gr_rd rfl rfl rfl (rd_pick_t rfl rfl) ?_ | refine gr_rd rfl rfl rfl (rd_pick_f rfl rfl) ?_)
                refine gr_rd rfl rfl rfl (rd_assign rfl) ?_
                refine gr_nil ?_
                refine gk_then ?_
                refine gc_ret ?_
                refine gk_result (L' := L) (.inl rfl) _ (res1 rfl rfl) (by repeat (first | exact List.Sublist.refl _ | apply List.Sublist.cons_cons | apply List.Sublist.cons | apply List.Sublist.append (List.Sublist.refl _) | refine List.Sublist.trans ?_ (List.sublist_append_right _ _))) (by first | exact Gh.le_refl _ | assumption | exact Gh.le_trans (by assumption) (by assumption)) ?_
                refine ⟨?_, rfl, rfl⟩
                congr 1
                rw [Bool.eq_iff_iff, good_iff]
                have hgl := gN_le o.draft
                have hrl := rN_le o.preds
                simp only [beq_iff_eq, beq_eq_false_iff_ne, iN_t, iN_f, bN_t, bN_f, Bool.not_eq_true', Bool.not_eq_false', decide_eq_true_iff, decide_eq_false_iff_not, gN_t, gN_f, ne_eq, Bool.false_eq_true, iff_false, false_iff, true_iff, iff_true, Bool.not_not, Decidable.not_not] at * <;> omega
        · skip
          refine gr_no rfl rfl rfl ?_
          refine gr_no rfl rfl rfl ?_
          refine gr_no rfl rfl rfl ?_
          (first | refine gr_rd rfl rfl rfl (rd_pick_t rfl rfl) ?_ | refine gr_rd rfl rfl rfl (rd_pick_f rfl rfl) ?_)
          (first | refine gr_rd rfl rfl rfl (rd_pick_t rfl rfl) ?_ | refine gr_rd rfl rfl rfl (rd_pick_f rfl rfl) ?_)
          refine gr_rd rfl rfl rfl (rd_move rfl) ?_
          refine gr_rd rfl rfl rfl (rd_fieldAddr Tryd.fa38_3 rfl) ?_
          refine gr_rd rfl rfl rfl (rd_load1 Tryd.to29 rfl (by first | (apply Cells.own; (repeat (first | exact List.mem_cons_self | apply List.mem_cons_of_mem)); done) | assumption) (by first | rfl | assumption | exact encOp_37 _ _ | exact encOp_36 _ _ | exact encOp_35 _ _ | exact encOp_0 _ _ | exact encOp_1 _ _ | exact encOp_2 _ _ | exact encDraft_0 _ | exact encDraft_1 _ | exact encDraft_2 _ | simp)) ?_
          refine gr_rd rfl rfl rfl (rd_lenS Tryd.underlying29 rfl) ?_
          refine gr_rd rfl rfl rfl (rd_gtr rfl rfl) ?_
          (first | refine gr_rd rfl rfl rfl (rd_pick_t rfl rfl) ?_ | refine gr_rd rfl rfl rfl (rd_pick_f rfl rfl) ?_)
          refine gr_nil ?_
          refine gk_then ?_
          refine gc_cond rfl (fun hc2 => ?_) (fun hc2 => ?_)
          · skip
            refine gc_seq ?_
            refine gc_seqr [(.mv, 0)] rfl ?_
            refine gr_rd rfl rfl rfl (rd_assign rfl) ?_
            refine gr_nil ?_
            refine gk_then ?_
            refine gc_ret ?_
            refine gk_ret_then ?_
            refine gk_result (L' := L) (.inl rfl) _ (res1 rfl rfl) (by repeat (first | exact List.Sublist.refl _ | apply List.Sublist.cons_cons | apply List.Sublist.cons | apply List.Sublist.append (List.Sublist.refl _) | refine List.Sublist.trans ?_ (List.sublist_append_right _ _))) (by first | exact Gh.le_refl _ | assumption | exact Gh.le_trans (by assumption) (by assumption)) ?_
            refine ⟨?_, rfl, rfl⟩
            congr 1
            rw [Bool.eq_iff_iff, good_iff]
            have hgl := gN_le o.draft
            have hrl := rN_le o.preds
            simp only [beq_iff_eq, beq_eq_false_iff_ne, iN_t, iN_f, bN_t, bN_f, Bool.not_eq_true', Bool.not_eq_false', decide_eq_true_iff, decide_eq_false_iff_not, gN_t, gN_f, ne_eq, Bool.false_eq_true, iff_false, false_iff, true_iff, iff_true, Bool.not_not, Decidable.not_not] at * <;> omega
          · skip
            refine gc_skip ?_
            refine gk_then ?_
            refine gc_seq ?_
            refine gc_seqr [(.mv, 0), (.mv, 1), (.nm, 2), (.mv, 3), (.mv, 4), (.mv, 5), (.mv, 6), (.mv, 7), (.mv, 8), (.mv, 9), (.mv, 10), (.mv, 11), (.mv, 12), (.mv, 13)] rfl ?_
            refine gr_rd rfl rfl rfl (rd_fieldAddr Tryd.fa38_0 rfl) ?_
            refine gr_rd rfl rfl rfl (rd_loadA Tryd.ta36 rfl (Cells.own List.mem_cons_self) (encOp_seg_draft o _) (encDraft_length _)) ?_
            refine gr_nx rfl rfl rfl (nx_call Tryd.en62 rfl (rgoodDraft_cc _ _ o.draft)) ?_; rintro v56 H' L' hle ⟨rfl, rfl, rfl⟩; refine ⟨trivial, ?_⟩
            refine gr_rd rfl rfl rfl (rd_move rfl) ?_
            refine gr_split rfl (fun hg3 => ?_) (fun hg3 => ?_)
            · skip
              refine gr_rd rfl rfl rfl (rd_fieldAddr Tryd.fa38_1 rfl) ?_
              refine gr_rd rfl rfl rfl (rd_load1 Tryd.to3 rfl (by first | (apply Cells.own; (repeat (first | exact List.mem_cons_self | apply List.mem_cons_of_mem)); done) | assumption) (by first | rfl | assumption | exact encOp_37 _ _ | exact encOp_36 _ _ | exact encOp_35 _ _ | exact encOp_0 _ _ | exact encOp_1 _ _ | exact encOp_2 _ _ | exact encDraft_0 _ | exact encDraft_1 _ | exact encDraft_2 _ | simp)) ?_
              refine gr_rd rfl rfl rfl (rd_geq rfl rfl) ?_
              (first | refine gr_rd rfl rfl rfl (rd_pick_t rfl rfl) ?_ | refine gr_rd rfl rfl rfl (rd_pick_f rfl rfl) ?_)
              refine gr_rd rfl rfl rfl (rd_move rfl) ?_
              refine gr_split rfl (fun hg8 => ?_) (fun hg8 => ?_)
              · skip
                refine gr_rd rfl rfl rfl (rd_fieldAddr Tryd.fa38_1 rfl) ?_
                refine gr_rd rfl rfl rfl (rd_load1 Tryd.to3 rfl (by first | (apply Cells.own; (repeat (first | exact List.mem_cons_self | apply List.mem_cons_of_mem)); done) | assumption) (by first | rfl | assumption | exact encOp_37 _ _ | exact encOp_36 _ _ | exact encOp_35 _ _ | exact encOp_0 _ _ | exact encOp_1 _ _ | exact encOp_2 _ _ | exact encDraft_0 _ | exact encDraft_1 _ | exact encDraft_2 _ | simp)) ?_
                refine gr_rd rfl rfl rfl (rd_leq rfl rfl) ?_
                (first | refine gr_rd rfl rfl rfl (rd_pick_t rfl rfl) ?_ | refine gr_rd rfl rfl rfl (rd_pick_f rfl rfl) ?_)
                refine gr_rd rfl rfl rfl (rd_assign rfl) ?_
                refine gr_nil ?_
                refine gk_then ?_
                refine gc_ret ?_
                refine gk_result (L' := L) (.inl rfl) _ (res1 rfl rfl) (by repeat (first | exact List.Sublist.refl _ | apply List.Sublist.cons_cons | apply List.Sublist.cons | apply List.Sublist.append (List.Sublist.refl _) | refine List.Sublist.trans ?_ (List.sublist_append_right _ _))) (by first | exact Gh.le_refl _ | assumption | exact Gh.le_trans (by assumption) (by assumption)) ?_
                refine ⟨?_, rfl, rfl⟩
                congr 1
                rw [Bool.eq_iff_iff, good_iff]
                have hgl := gN_le o.draft
                have hrl := rN_le o.preds
                simp only [beq_iff_eq, beq_eq_false_iff_ne, iN_t, iN_f, bN_t, bN_f, Bool.not_eq_true', Bool.not_eq_false', decide_eq_true_iff, decide_eq_false_iff_not, gN_t, gN_f, ne_eq, Bool.false_eq_true, iff_false, false_iff, true_iff, iff_true, Bool.not_not, Decidable.not_not] at * <;> omega
              · skip
                refine gr_no rfl rfl rfl ?_
                refine gr_no rfl rfl rfl ?_
                refine gr_no rfl rfl rfl ?_
                (first | refine gr_rd rfl rfl rfl (rd_pick_t rfl rfl) ?_ | refine gr_rd rfl rfl rfl (rd_pick_f rfl rfl) ?_)
                refine gr_rd rfl rfl rfl (rd_assign rfl) ?_
                refine gr_nil ?_
                refine gk_then ?_
                refine gc_ret ?_
                refine gk_result (L' := L) (.inl rfl) _ (res1 rfl rfl) (by repeat (first | exact List.Sublist.refl _ | apply List.Sublist.cons_cons | apply List.Sublist.cons | apply List.Sublist.append (List.Sublist.refl _) | refine List.Sublist.trans ?_ (List.sublist_append_right _ _))) (by first | exact Gh.le_refl _ | assumption | exact Gh.le_trans (by assumption) (by assumption)) ?_
                refine ⟨?_, rfl, rfl⟩
                congr 1
                rw [Bool.eq_iff_iff, good_iff]
                have hgl := gN_le o.draft
                have hrl := rN_le o.preds
                simp only [beq_iff_eq, beq_eq_false_iff_ne, iN_t, iN_f, bN_t, bN_f, Bool.not_eq_true', Bool.not_eq_false', decide_eq_true_iff, decide_eq_false_iff_not, gN_t, gN_f, ne_eq, Bool.false_eq_true, iff_false, false_iff, true_iff, iff_true, Bool.not_not, Decidable.not_not] at * <;> omega
            · skip
              refine gr_no rfl rfl rfl ?_
              refine gr_no rfl rfl rfl ?_
              refine gr_no rfl rfl rfl ?_
              (first | refine gr_rd rfl rfl rfl (rd_pick_t rfl rfl) ?_ | refine gr_rd rfl rfl rfl (rd_pick_f rfl rfl) ?_)
              refine gr_rd rfl rfl rfl (rd_move rfl) ?_
              refine gr_no rfl rfl rfl ?_
              refine gr_no rfl rfl rfl ?_
              refine gr_no rfl rfl rfl ?_
              (first | refine gr_rd rfl rfl rfl (rd_pick_t rfl rfl) ?_ | refine gr_rd rfl rfl rfl (rd_pick_f rfl rfl) ?_)
              refine gr_rd rfl rfl rfl (rd_assign rfl) ?_
              refine gr_nil ?_
              refine gk_then ?_
              refine gc_ret ?_
              refine gk_result (L' := L) (.inl rfl) _ (res1 rfl rfl) (by repeat (first | exact List.Sublist.refl _ | apply List.Sublist.cons_cons | apply List.Sublist.cons | apply List.Sublist.append (List.Sublist.refl _) | refine List.Sublist.trans ?_ (List.sublist_append_right _ _))) (by first | exact Gh.le_refl _ | assumption | exact Gh.le_trans (by assumption) (by assumption)) ?_
              refine ⟨?_, rfl, rfl⟩
              congr 1
              rw [Bool.eq_iff_iff, good_iff]
              have hgl := gN_le o.draft
              have hrl := rN_le o.preds
              simp only [beq_iff_eq, beq_eq_false_iff_ne, iN_t, iN_f, bN_t, bN_f, Bool.not_eq_true', Bool.not_eq_false', decide_eq_true_iff, decide_eq_false_iff_not, gN_t, gN_f, ne_eq, Bool.false_eq_true, iff_false, false_iff, true_iff, iff_true, Bool.not_not, Decidable.not_not] at * <;> omega
end Go.Proofs.YtfhldfjknagidaaDoor
