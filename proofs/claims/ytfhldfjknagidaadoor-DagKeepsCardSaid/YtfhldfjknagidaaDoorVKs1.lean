/-
  Walks: comparing names.
-/
import Derived.Test.YtfhldfjknagidaaDoorVKFacts
set_option linter.unusedSimpArgs false
set_option linter.unusedVariables false
namespace Go.Proofs.YtfhldfjknagidaaDoor
open Go.VK Go.Tr
set_option maxRecDepth 20000
theorem ne_of_len {a b : List Nm} (h : ((a.length : Int) != (b.length : Int)) = true) : decide (a = b) = false := by
  have : a ≠ b := fun e => by subst e; simp at h
  simp [this]
theorem ne_of_at {a b : List Nm} {k : Nat} {x y : Nm} (ha : a[k]? = some x) (hb : b[k]? = some y) (h : (x.bytes != y.bytes) = true) : decide (a = b) = false := by
  have : a ≠ b := fun e => by subst e; rw [ha] at hb; cases hb; simp at h
  simp [this]
theorem eq_of_all {a b : List Nm} {k : Nat} (hl : a.length = b.length) (hk : ¬ k < a.length) (h : ∀ j, j < k → a[j]? = b[j]?) : decide (a = b) = true := by
  have : a = b := by
    apply List.ext_getElem?; intro j
    by_cases hj : j < k
    · exact h j hj
    · rw [List.getElem?_eq_none (by omega), List.getElem?_eq_none (by omega)]
  simp [this]

theorem ids_cc (H : Gh) (L : Chunks) (va vb : Value) (a b : List Nm) (ha : Ids H L va a) (hb : Ids H L vb b) :
    CC Tryd.prog 25 #[va, vb] H L (fun v H' L' => v = .bool (decide (a = b)) ∧ H = H' ∧ L = L') := by
  obtain ⟨A, ba, oa, ca, la, rfl, hca, hna, ha0, ha1, ha2⟩ := ha
  obtain ⟨B, bb, ob, cb, lb, rfl, hcb, hnb, hb0, hb1, hb2⟩ := hb
  refine cc_of Tryd.func25 rfl (Nat.le_of_ble_eq_true rfl) ?_
  simp only [Tryd.ntmps25]
  refine gc_seq ?_
  refine gc_seqr [(.mv, 0)] rfl ?_
  refine gr_rd rfl rfl rfl (rd_assign rfl) ?_
  refine gr_nil ?_
  refine gk_then ?_
  refine gc_seq ?_
  refine gc_seq ?_
  refine gc_seqr [(.mv, 0), (.mv, 1), (.mv, 2), (.mv, 3), (.mv, 4)] rfl ?_
  refine gr_rd rfl rfl rfl (rd_move rfl) ?_
  refine gr_rd rfl rfl rfl (rd_lenS Tryd.underlying29 rfl) ?_
  refine gr_rd rfl rfl rfl (rd_move rfl) ?_
  refine gr_rd rfl rfl rfl (rd_lenS Tryd.underlying29 rfl) ?_
  refine gr_rd rfl rfl rfl (rd_neq rfl rfl) ?_
  refine gr_nil ?_
  refine gk_then ?_
  refine gc_cond rfl (fun hc0 => ?_) (fun hc0 => ?_)
  · skip
    refine gc_seq ?_
    refine gc_seqr [(.mv, 0)] rfl ?_
    refine gr_rd rfl rfl rfl (rd_assign rfl) ?_
    refine gr_nil ?_
    refine gk_then ?_
    refine gc_ret ?_
    refine gk_ret_then ?_
    refine gk_result (L' := L) (.inl rfl) _ (res1 rfl rfl) (by repeat (first | exact List.Sublist.refl _ | apply List.Sublist.cons_cons | apply List.Sublist.cons | apply List.Sublist.append (List.Sublist.refl _) | refine List.Sublist.trans ?_ (List.sublist_append_right _ _))) (by first | exact Gh.le_refl _ | assumption | exact Gh.le_trans (by assumption) (by assumption)) ?_
    exact ⟨by rw [ne_of_len hc0], rfl, rfl⟩
  · have hl : a.length = b.length := by simp at hc0; omega
    refine gc_skip ?_
    refine gk_then ?_
    refine gc_seq ?_
    refine gc_seq ?_
    refine gc_seqr [(.mv, 0), (.mv, 1), (.mv, 2)] rfl ?_
    refine gr_rd rfl rfl rfl (rd_move rfl) ?_
    refine gr_rd rfl rfl rfl (rd_lenS Tryd.underlying29 rfl) ?_
    refine gr_rd rfl rfl rfl (rd_move rfl) ?_
    refine gr_nil ?_
    refine gk_then ?_
    refine gc_block ?_
    refine gc_loop (fun k : Nat => [(0, .slice A a.length ca), (1, .slice B b.length cb), (12, .int .i64 a.length), (13, .int .i64 k)]) (fun k H1 L1 => H = H1 ∧ L = L1 ∧ k ≤ a.length ∧ ∀ j, j < k → a[j]? = b[j]?) (fun k => a.length - k) (0) ?_ (by repeat (first | exact Subs.nil | refine Subs.cons rfl ?_)) ?_
    · exact ⟨rfl, rfl, Nat.zero_le _, fun j hj => absurd hj (Nat.not_lt_zero _)⟩
    · rintro k H1 L1 ⟨rfl, rfl, hk, hj⟩
      refine gc_seq ?_
      refine gc_seqr [(.mv, 0)] rfl ?_
      refine gr_rd rfl rfl rfl (rd_lss rfl rfl) ?_
      refine gr_nil ?_
      refine gk_then ?_
      refine gc_seq ?_
      refine gc_cond rfl (fun hc1 => ?_) (fun hc1 => ?_)
      · have hlt : k < a.length := by simpa using hc1
        have hxa : a[k]? = some a[k] := List.getElem?_eq_getElem hlt
        have hxb : b[k]? = some b[k] := List.getElem?_eq_getElem (by omega)
        have hA : A = some ⟨ba, oa, none⟩ := (ha1 (List.ne_nil_of_length_pos (by omega))).1
        have hCa := (ha1 (List.ne_nil_of_length_pos (by omega))).2
        have hB : B = some ⟨bb, ob, none⟩ := (hb1 (List.ne_nil_of_length_pos (by omega))).1
        have hCb := (hb1 (List.ne_nil_of_length_pos (by omega))).2
        have hsa := ha2 k _ hxa
        have hsb := hb2 k _ hxb
        refine gc_skip ?_
        refine gk_then ?_
        refine gc_seq ?_
        refine gc_block ?_
        refine gc_seq ?_
        refine gc_seqr [(.mv, 0), (.mv, 1)] rfl ?_
        refine gr_rd rfl rfl rfl (rd_move rfl) ?_
        refine gr_rd rfl rfl rfl (rd_assign rfl) ?_
        refine gr_nil ?_
        refine gk_then ?_
        refine gc_seq ?_
        refine gc_draw Tryd.mixed [(.mv, 0), (.mv, 1), (.mv, 2), (.mv, 3), (.mv, 4), (.mv, 5), (.mv, 6), (.mv, 7), (.mv, 8)] (by decide +kernel) _ (List.Sublist.refl _) ?_
        refine gr_rd rfl rfl rfl (rd_move rfl) ?_
        refine gr_rd rfl rfl rfl (rd_move rfl) ?_
        refine gr_rd rfl rfl rfl (rd_indexS Tryd.underlying29 Tryd.sizeOf34 rfl rfl (by first | rfl | assumption) (by omega) (by omega)) ?_
        refine gr_rd rfl rfl rfl (rd_loadA Tryd.ta34 rfl (by first | (apply Cells.own; (repeat (first | exact List.mem_cons_self | apply List.mem_cons_of_mem)); done) | assumption) (by first | exact Seg.all _ | exact Seg.head | (first | exact hsa | exact hsb)) (by first | exact encId_length _ | exact encOp_length _ _ | exact encDraft_length _ | rfl | simp)) ?_
        refine gr_rd rfl rfl rfl (rd_move rfl) ?_
        refine gr_rd rfl rfl rfl (rd_move rfl) ?_
        refine gr_rd rfl rfl rfl (rd_indexS Tryd.underlying29 Tryd.sizeOf34 rfl rfl (by first | rfl | assumption) (by omega) (by omega)) ?_
        refine gr_rd rfl rfl rfl (rd_loadA Tryd.ta34 rfl (by first | (apply Cells.own; (repeat (first | exact List.mem_cons_self | apply List.mem_cons_of_mem)); done) | assumption) (by first | exact Seg.all _ | exact Seg.head | (first | exact hsa | exact hsb)) (by first | exact encId_length _ | exact encOp_length _ _ | exact encDraft_length _ | rfl | simp)) ?_
        refine gr_rd rfl rfl rfl (rd_arrNe Tryd.tb34 (by first | exact Nm.len _ | assumption | simp) (by first | exact Nm.len _ | assumption | simp) rfl rfl) ?_
        refine gr_nil ?_
        refine gk_then ?_
        refine gc_cond rfl (fun hc2 => ?_) (fun hc2 => ?_)
        · skip
          refine gc_seq ?_
          refine gc_seqr [(.mv, 0)] rfl ?_
          refine gr_rd rfl rfl rfl (rd_assign rfl) ?_
          refine gr_nil ?_
          refine gk_then ?_
          refine gc_ret ?_
          refine gk_ret_inBlock ?_
          refine gk_ret_then ?_
          refine gk_ret_then ?_
          refine gk_ret_inBlock ?_
          refine gk_ret_then ?_
          refine gk_result (L' := L) (.inl rfl) _ (res1 rfl rfl) (by repeat (first | exact List.Sublist.refl _ | apply List.Sublist.cons_cons | apply List.Sublist.cons | apply List.Sublist.append (List.Sublist.refl _) | refine List.Sublist.trans ?_ (List.sublist_append_right _ _))) (by first | exact Gh.le_refl _ | assumption | exact Gh.le_trans (by assumption) (by assumption)) ?_
          exact ⟨by rw [ne_of_at hxa hxb hc2], rfl, rfl⟩
        · skip
          refine gc_skip ?_
          refine gk_inBlock ?_
          refine gk_then ?_
          refine gc_seqr [(.mv, 0), (.mv, 1)] rfl ?_
          (first | refine gr_rd rfl rfl rfl (rd_add rfl rfl (IntWalk.i64_in _ (by omega))) ?_ | refine gr_rd rfl rfl rfl (rd_add rfl rfl rfl) ?_)
          refine gr_rd rfl rfl rfl (rd_move rfl) ?_
          refine gr_nil ?_
          refine gk_round (k + 1) (by omega) ⟨rfl, rfl, by omega, fun j hj2 => ?_⟩ (by repeat (first | exact Subs.nil | refine Subs.cons rfl ?_))
          by_cases e : j = k
          · subst e; rw [hxa, hxb]; congr 1; exact Nm.ext' (by simpa using hc2)
          · exact hj j (by omega)
      · skip
        refine gc_exit ?_
        refine gk_exit_then ?_
        refine gk_exit_then ?_
        refine gk_here ?_
        refine gk_then ?_
        refine gc_seq ?_
        refine gc_seqr [(.mv, 0)] rfl ?_
        refine gr_rd rfl rfl rfl (rd_assign rfl) ?_
        refine gr_nil ?_
        refine gk_then ?_
        refine gc_ret ?_
        refine gk_result (L' := L) (.inl rfl) _ (res1 rfl rfl) (by repeat (first | exact List.Sublist.refl _ | apply List.Sublist.cons_cons | apply List.Sublist.cons | apply List.Sublist.append (List.Sublist.refl _) | refine List.Sublist.trans ?_ (List.sublist_append_right _ _))) (by first | exact Gh.le_refl _ | assumption | exact Gh.le_trans (by assumption) (by assumption)) ?_
        exact ⟨by rw [eq_of_all hl (by simp at hc1; omega) hj], rfl, rfl⟩
end Go.Proofs.YtfhldfjknagidaaDoor
