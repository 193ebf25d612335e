/-
  Walks: same operations.
-/
import Derived.Test.YtfhldfjknagidaaDoorVKs11
import Derived.Laws.StructEq
set_option linter.unusedSimpArgs false
set_option linter.unusedVariables false
namespace Go.Proofs.YtfhldfjknagidaaDoor
open Go.VK Go.Tr
set_option maxRecDepth 20000
attribute [local irreducible] Go.Tr.sha
theorem part_draft (w : World) (a : Draft) : (part 34 (encDraft a).toArray 3).run Tryd.prog w = .ok (ag (encId a.ref)) w := by
  have e : List.take 32 (List.drop 3 (encDraft a)) = encId a.ref := List.take_of_length_le (by simp [encDraft])
  simp [part, Tryd.isAgg34, Tryd.sizeOf34, e]
theorem draft_dec (a b : Draft) : decide (a = b) = ((a.kind == b.kind) && decide (a.key = b.key) && decide (a.value = b.value) && (a.ref.bytes == b.ref.bytes)) := by
  have : a = b ↔ (a.kind = b.kind ∧ a.key = b.key ∧ a.value = b.value ∧ a.ref.bytes = b.ref.bytes) := by
    constructor
    · rintro rfl; exact ⟨rfl, rfl, rfl, rfl⟩
    · rintro ⟨h1, h2, h3, h4⟩
      have := Nm.ext' h4
      cases a; cases b; simp_all
  rw [Bool.eq_iff_iff]
  simp [this, and_assoc]
theorem run_draftEq (w : World) (a b : Draft) : (Op.equalIn 10000 36 (ag (encDraft a)) (ag (encDraft b))).run Tryd.prog w = .ok (decide (a = b)) w := by
  have h := run_equalIn_struct (P := Tryd.prog) w 9999 36 (encDraft a).toArray (encDraft b).toArray (by simp only [Program.fieldsOf, Tryd.underlying36]) (by kernel_rfl)
  simp only [Program.fieldsOf, Tryd.underlying36] at h
  have h2 := run_equalIn_bytes (P := Tryd.prog) w 9997 34 5 32 Tryd.underlying34 Tryd.underlying5 Tryd.sizeOf5 a.ref.bytes b.ref.bytes a.ref.len b.ref.len
  have h3 : (Op.equalIn 9999 34 (ag (encId a.ref)) (ag (encId b.ref))).run Tryd.prog w = .ok (a.ref.bytes == b.ref.bytes) w := h2
  have pk : ∀ x : Draft, (part 3 (encDraft x).toArray 0).run Tryd.prog w = .ok (i64 x.kind) w := fun x => by simp [part, Tryd.isAgg3]; rfl
  have p1 : ∀ x : Draft, (part 9 (encDraft x).toArray 1).run Tryd.prog w = .ok (str x.key) w := fun x => by simp [part, Tryd.isAgg9]; rfl
  have p2 : ∀ x : Draft, (part 9 (encDraft x).toArray 2).run Tryd.prog w = .ok (str x.value) w := fun x => by simp [part, Tryd.isAgg9]; rfl
  have q0 := run_equalIn_int (P := Tryd.prog) w 9998 3 .i64 .i64 a.kind b.kind Tryd.underlying3
  have q1 := run_equalIn_string (P := Tryd.prog) w 9998 9 ⟨a.key.toArray⟩ ⟨b.key.toArray⟩ Tryd.underlying9
  have q2 := run_equalIn_string (P := Tryd.prog) w 9998 9 ⟨a.value.toArray⟩ ⟨b.value.toArray⟩ Tryd.underlying9
  rw [bytes_beq, dec_str] at q1 q2
  rw [h, draft_dec]
  simp only [Op.eqFields, Sem.run_bind, pk, p1, p2, part_draft, h3, q0, q1, q2, Result.andThen_ok, Sem.run_ite, Sem.run_pure]
  cases (a.kind == b.kind) <;> cases decide (a.key = b.key) <;> cases decide (a.value = b.value) <;> cases (a.ref.bytes == b.ref.bytes) <;> simp
theorem rd_draftNe {E : Env} {H : Gh} {L : Chunks} {t T' : TypeId} {x y : Operand} {a b : Draft} (hx : ev E x = some (ag (encDraft a))) (hy : ev E y = some (ag (encDraft b))) :
    Rd Tryd.prog E H L (.binOp .neq 36 x y T') t (.bool (!decide (a = b))) := fun A w N hA _ => by
  have h1 := run_eqGuard_agg (P := Tryd.prog) w .neq 36 x y (encDraft a).toArray (encDraft b).toArray (by kernel_rfl)
  have h2 := run_draftEq w a b
  simp only [execOp, hA.ev hx, hA.ev hy]
  rw [Sem.run_bind, Sem.run_bind, h1]
  simp only [Result.andThen_ok]
  rw [run_neq_struct, h2]
  rfl
theorem op_ne_at {a b : POp} {k : Nat} (hl : a.preds.length = b.preds.length) (hk : k < a.preds.length) (h : ((a.preds.getD k Nm.zero).bytes != (b.preds.getD k Nm.zero).bytes) = true) : decide (a = b) = false := by
  rw [decide_eq_false_iff_not]; rintro rfl; simp at h
theorem op_eq_all {a b : POp} {k : Nat} (h1 : a.draft = b.draft) (h2 : a.author = b.author) (h3 : a.depth = b.depth) (hl : a.preds.length = b.preds.length) (hk : ¬ k < a.preds.length) (h : ∀ j, j < k → a.preds.getD j Nm.zero = b.preds.getD j Nm.zero) : decide (a = b) = true := by
  have : a.preds = b.preds := by
    apply List.ext_getElem hl
    intro j hj1 hj2
    have := h j (by omega)
    rw [List.getD_eq_getElem?_getD, List.getD_eq_getElem?_getD, List.getElem?_eq_getElem hj1, List.getElem?_eq_getElem hj2] at this
    exact this
  cases a; cases b; simp_all

theorem same_cc (H : Gh) (L : Chunks) (a b : POp) (pa pb : Value) (ha : Ids H L pa a.preds) (hb : Ids H L pb b.preds) :
    CC Tryd.prog 20 #[ag (encOp a pa), ag (encOp b pb)] H L (fun v H' L' => v = .bool (decide (a = b)) ∧ H = H' ∧ L = L') := by
  obtain ⟨A, bv, of, cv, lv, rfl, hcv, hnv, hv0, hv1, hv2⟩ := ha
  obtain ⟨B, bw, og, cb, lw, rfl, hcb, hnb, hw0, hw1, hw2⟩ := hb
  refine cc_of Tryd.func20 rfl (Nat.le_of_ble_eq_true rfl) ?_
  simp only [Tryd.ntmps20]
  refine gc_seq ?_
  refine gc_seqr [(.nm, 0), (.nm, 1), (.mv, 2)] rfl ?_
  refine gr_nx rfl rfl rfl (nx_box rfl rfl) ?_; rintro _ _ _ _ ⟨b2, rfl, rfl, rfl⟩; refine ⟨trivial, ?_⟩
  refine gr_nx rfl rfl rfl (nx_box rfl rfl) ?_; rintro _ _ _ _ ⟨b3, rfl, rfl, rfl⟩; refine ⟨trivial, ?_⟩
  refine gr_rd rfl rfl rfl (rd_assign rfl) ?_
  refine gr_nil ?_
  refine gk_then ?_
  refine gc_seq ?_
  refine gc_seq ?_
  refine gc_seqr [(.mv, 0), (.mv, 1), (.mv, 2), (.mv, 3), (.mv, 4), (.mv, 5), (.mv, 6), (.mv, 7), (.mv, 8), (.mv, 9), (.mv, 10), (.mv, 11), (.mv, 12), (.mv, 13), (.mv, 14), (.mv, 15), (.mv, 16), (.mv, 17), (.mv, 18), (.mv, 19), (.mv, 20), (.mv, 21), (.mv, 22), (.mv, 23), (.mv, 24), (.mv, 25), (.mv, 26), (.mv, 27)] rfl ?_
  refine gr_rd rfl rfl rfl (rd_fieldAddr Tryd.fa38_0 rfl) ?_
  refine gr_rd rfl rfl rfl (rd_loadA Tryd.ta36 rfl (Cells.own (List.mem_cons_of_mem _ List.mem_cons_self)) (encOp_seg_draft a _) (encDraft_length _)) ?_
  refine gr_rd rfl rfl rfl (rd_fieldAddr Tryd.fa38_0 rfl) ?_
  refine gr_rd rfl rfl rfl (rd_loadA Tryd.ta36 rfl (Cells.own List.mem_cons_self) (encOp_seg_draft b _) (encDraft_length _)) ?_
  refine gr_rd rfl rfl rfl (rd_draftNe rfl rfl) ?_
  refine gr_rd rfl rfl rfl (rd_move rfl) ?_
  refine gr_split rfl (fun hg5 => ?_) (fun hg5 => ?_)
  · skip
    refine gr_no rfl rfl rfl ?_
    refine gr_no rfl rfl rfl ?_
    refine gr_no rfl rfl rfl ?_
    refine gr_no rfl rfl rfl ?_
    refine gr_no rfl rfl rfl ?_
    (first | refine gr_rd rfl rfl rfl (rd_pick_t rfl rfl) ?_ | refine gr_rd rfl rfl rfl (rd_pick_f rfl rfl) ?_)
    refine gr_rd rfl rfl rfl (rd_move rfl) ?_
    refine gr_no rfl rfl rfl ?_
    refine gr_no rfl rfl rfl ?_
    refine gr_no rfl rfl rfl ?_
    refine gr_no rfl rfl rfl ?_
    refine gr_no rfl rfl rfl ?_
    (first | refine gr_rd rfl rfl rfl (rd_pick_t rfl rfl) ?_ | refine gr_rd rfl rfl rfl (rd_pick_f rfl rfl) ?_)
    refine gr_rd rfl rfl rfl (rd_move rfl) ?_
    refine gr_no rfl rfl rfl ?_
    refine gr_no rfl rfl rfl ?_
    refine gr_no rfl rfl rfl ?_
    refine gr_no rfl rfl rfl ?_
    refine gr_no rfl rfl rfl ?_
    refine gr_no rfl rfl rfl ?_
    refine gr_no rfl rfl rfl ?_
    (first | refine gr_rd rfl rfl rfl (rd_pick_t rfl rfl) ?_ | refine gr_rd rfl rfl rfl (rd_pick_f rfl rfl) ?_)
    refine gr_nil ?_
    refine gk_then ?_
    refine gc_yes rfl ?_
    refine gc_seq ?_
    refine gc_seqr [(.mv, 0)] rfl ?_
    refine gr_rd rfl rfl rfl (rd_assign rfl) ?_
    refine gr_nil ?_
    refine gk_then ?_
    refine gc_ret ?_
    refine gk_ret_then ?_
    refine gk_result (L' := L) (.inl rfl) _ (res1 rfl rfl) (by repeat (first | exact List.Sublist.refl _ | apply List.Sublist.cons_cons | apply List.Sublist.cons | apply List.Sublist.append (List.Sublist.refl _) | refine List.Sublist.trans ?_ (List.sublist_append_right _ _))) (by first | exact Gh.le_refl _ | assumption | exact Gh.le_trans (by assumption) (by assumption)) ?_
    refine ⟨?_, rfl, rfl⟩
    congr 1
    symm
    rw [decide_eq_false_iff_not]
    rintro rfl
    simp_all
  · skip
    refine gr_rd rfl rfl rfl (rd_fieldAddr Tryd.fa38_1 rfl) ?_
    refine gr_rd rfl rfl rfl (rd_load1 Tryd.to3 rfl (by first | (apply Cells.own; (repeat (first | exact List.mem_cons_self | apply List.mem_cons_of_mem)); done) | assumption) (by first | rfl | assumption | exact encOp_37 _ _ | exact encOp_36 _ _ | exact encOp_35 _ _ | exact encOp_0 _ _ | exact encOp_1 _ _ | exact encOp_2 _ _ | exact encDraft_0 _ | exact encDraft_1 _ | exact encDraft_2 _ | simp)) ?_
    refine gr_rd rfl rfl rfl (rd_fieldAddr Tryd.fa38_1 rfl) ?_
    refine gr_rd rfl rfl rfl (rd_load1 Tryd.to3 rfl (by first | (apply Cells.own; (repeat (first | exact List.mem_cons_self | apply List.mem_cons_of_mem)); done) | assumption) (by first | rfl | assumption | exact encOp_37 _ _ | exact encOp_36 _ _ | exact encOp_35 _ _ | exact encOp_0 _ _ | exact encOp_1 _ _ | exact encOp_2 _ _ | exact encDraft_0 _ | exact encDraft_1 _ | exact encDraft_2 _ | simp)) ?_
    refine gr_rd rfl rfl rfl (rd_neq rfl rfl) ?_
    (first | refine gr_rd rfl rfl rfl (rd_pick_t rfl rfl) ?_ | refine gr_rd rfl rfl rfl (rd_pick_f rfl rfl) ?_)
    refine gr_rd rfl rfl rfl (rd_move rfl) ?_
    refine gr_split rfl (fun hg12 => ?_) (fun hg12 => ?_)
    · skip
      refine gr_no rfl rfl rfl ?_
      refine gr_no rfl rfl rfl ?_
      refine gr_no rfl rfl rfl ?_
      refine gr_no rfl rfl rfl ?_
      refine gr_no rfl rfl rfl ?_
      (first | refine gr_rd rfl rfl rfl (rd_pick_t rfl rfl) ?_ | refine gr_rd rfl rfl rfl (rd_pick_f rfl rfl) ?_)
      refine gr_rd rfl rfl rfl (rd_move rfl) ?_
      refine gr_no rfl rfl rfl ?_
      refine gr_no rfl rfl rfl ?_
      refine gr_no rfl rfl rfl ?_
      refine gr_no rfl rfl rfl ?_
      refine gr_no rfl rfl rfl ?_
      refine gr_no rfl rfl rfl ?_
      refine gr_no rfl rfl rfl ?_
      (first | refine gr_rd rfl rfl rfl (rd_pick_t rfl rfl) ?_ | refine gr_rd rfl rfl rfl (rd_pick_f rfl rfl) ?_)
      refine gr_nil ?_
      refine gk_then ?_
      refine gc_yes rfl ?_
      refine gc_seq ?_
      refine gc_seqr [(.mv, 0)] rfl ?_
      refine gr_rd rfl rfl rfl (rd_assign rfl) ?_
      refine gr_nil ?_
      refine gk_then ?_
      refine gc_ret ?_
      refine gk_ret_then ?_
      refine gk_result (L' := L) (.inl rfl) _ (res1 rfl rfl) (by repeat (first | exact List.Sublist.refl _ | apply List.Sublist.cons_cons | apply List.Sublist.cons | apply List.Sublist.append (List.Sublist.refl _) | refine List.Sublist.trans ?_ (List.sublist_append_right _ _))) (by first | exact Gh.le_refl _ | assumption | exact Gh.le_trans (by assumption) (by assumption)) ?_
      refine ⟨?_, rfl, rfl⟩
      congr 1
      symm
      rw [decide_eq_false_iff_not]
      rintro rfl
      simp_all
    · skip
      refine gr_rd rfl rfl rfl (rd_fieldAddr Tryd.fa38_2 rfl) ?_
      refine gr_rd rfl rfl rfl (rd_load1 Tryd.to3 rfl (by first | (apply Cells.own; (repeat (first | exact List.mem_cons_self | apply List.mem_cons_of_mem)); done) | assumption) (by first | rfl | assumption | exact encOp_37 _ _ | exact encOp_36 _ _ | exact encOp_35 _ _ | exact encOp_0 _ _ | exact encOp_1 _ _ | exact encOp_2 _ _ | exact encDraft_0 _ | exact encDraft_1 _ | exact encDraft_2 _ | simp)) ?_
      refine gr_rd rfl rfl rfl (rd_fieldAddr Tryd.fa38_2 rfl) ?_
      refine gr_rd rfl rfl rfl (rd_load1 Tryd.to3 rfl (by first | (apply Cells.own; (repeat (first | exact List.mem_cons_self | apply List.mem_cons_of_mem)); done) | assumption) (by first | rfl | assumption | exact encOp_37 _ _ | exact encOp_36 _ _ | exact encOp_35 _ _ | exact encOp_0 _ _ | exact encOp_1 _ _ | exact encOp_2 _ _ | exact encDraft_0 _ | exact encDraft_1 _ | exact encDraft_2 _ | simp)) ?_
      refine gr_rd rfl rfl rfl (rd_neq rfl rfl) ?_
      (first | refine gr_rd rfl rfl rfl (rd_pick_t rfl rfl) ?_ | refine gr_rd rfl rfl rfl (rd_pick_f rfl rfl) ?_)
      refine gr_rd rfl rfl rfl (rd_move rfl) ?_
      refine gr_split rfl (fun hg19 => ?_) (fun hg19 => ?_)
      · skip
        refine gr_no rfl rfl rfl ?_
        refine gr_no rfl rfl rfl ?_
        refine gr_no rfl rfl rfl ?_
        refine gr_no rfl rfl rfl ?_
        refine gr_no rfl rfl rfl ?_
        refine gr_no rfl rfl rfl ?_
        refine gr_no rfl rfl rfl ?_
        (first | refine gr_rd rfl rfl rfl (rd_pick_t rfl rfl) ?_ | refine gr_rd rfl rfl rfl (rd_pick_f rfl rfl) ?_)
        refine gr_nil ?_
        refine gk_then ?_
        refine gc_yes rfl ?_
        refine gc_seq ?_
        refine gc_seqr [(.mv, 0)] rfl ?_
        refine gr_rd rfl rfl rfl (rd_assign rfl) ?_
        refine gr_nil ?_
        refine gk_then ?_
        refine gc_ret ?_
        refine gk_ret_then ?_
        refine gk_result (L' := L) (.inl rfl) _ (res1 rfl rfl) (by repeat (first | exact List.Sublist.refl _ | apply List.Sublist.cons_cons | apply List.Sublist.cons | apply List.Sublist.append (List.Sublist.refl _) | refine List.Sublist.trans ?_ (List.sublist_append_right _ _))) (by first | exact Gh.le_refl _ | assumption | exact Gh.le_trans (by assumption) (by assumption)) ?_
        refine ⟨?_, rfl, rfl⟩
        congr 1
        symm
        rw [decide_eq_false_iff_not]
        rintro rfl
        simp_all
      · skip
        refine gr_rd rfl rfl rfl (rd_fieldAddr Tryd.fa38_3 rfl) ?_
        refine gr_rd rfl rfl rfl (rd_load1 Tryd.to29 rfl (by first | (apply Cells.own; (repeat (first | exact List.mem_cons_self | apply List.mem_cons_of_mem)); done) | assumption) (by first | rfl | assumption | exact encOp_37 _ _ | exact encOp_36 _ _ | exact encOp_35 _ _ | exact encOp_0 _ _ | exact encOp_1 _ _ | exact encOp_2 _ _ | exact encDraft_0 _ | exact encDraft_1 _ | exact encDraft_2 _ | simp)) ?_
        refine gr_rd rfl rfl rfl (rd_lenS Tryd.underlying29 rfl) ?_
        refine gr_rd rfl rfl rfl (rd_fieldAddr Tryd.fa38_3 rfl) ?_
        refine gr_rd rfl rfl rfl (rd_load1 Tryd.to29 rfl (by first | (apply Cells.own; (repeat (first | exact List.mem_cons_self | apply List.mem_cons_of_mem)); done) | assumption) (by first | rfl | assumption | exact encOp_37 _ _ | exact encOp_36 _ _ | exact encOp_35 _ _ | exact encOp_0 _ _ | exact encOp_1 _ _ | exact encOp_2 _ _ | exact encDraft_0 _ | exact encDraft_1 _ | exact encDraft_2 _ | simp)) ?_
        refine gr_rd rfl rfl rfl (rd_lenS Tryd.underlying29 rfl) ?_
        refine gr_rd rfl rfl rfl (rd_neq rfl rfl) ?_
        (first | refine gr_rd rfl rfl rfl (rd_pick_t rfl rfl) ?_ | refine gr_rd rfl rfl rfl (rd_pick_f rfl rfl) ?_)
        refine gr_nil ?_
        refine gk_then ?_
        refine gc_cond rfl (fun hc0 => ?_) (fun hc0 => ?_)
        · skip
          refine gc_seq ?_
          refine gc_seqr [(.mv, 0)] rfl ?_
          refine gr_rd rfl rfl rfl (rd_assign rfl) ?_
          refine gr_nil ?_
          refine gk_then ?_
          refine gc_ret ?_
          refine gk_ret_then ?_
          refine gk_result (L' := L) (.inl rfl) _ (res1 rfl rfl) (by repeat (first | exact List.Sublist.refl _ | apply List.Sublist.cons_cons | apply List.Sublist.cons | apply List.Sublist.append (List.Sublist.refl _) | refine List.Sublist.trans ?_ (List.sublist_append_right _ _))) (by first | exact Gh.le_refl _ | assumption | exact Gh.le_trans (by assumption) (by assumption)) ?_
          refine ⟨?_, rfl, rfl⟩
          congr 1
          symm
          rw [decide_eq_false_iff_not]
          rintro rfl
          simp_all
        · have hl : a.preds.length = b.preds.length := by have := iN_f.1 hc0; omega
          have e1 : a.draft = b.draft := by simpa using hg5
          have e2 : a.author = b.author := iN_f.1 hg12
          have e3 : a.depth = b.depth := iN_f.1 hg19
          refine gc_skip ?_
          refine gk_then ?_
          refine gc_seq ?_
          refine gc_seq ?_
          refine gc_seqr [(.mv, 0), (.mv, 1), (.mv, 2), (.mv, 3)] rfl ?_
          refine gr_rd rfl rfl rfl (rd_fieldAddr Tryd.fa38_3 rfl) ?_
          refine gr_rd rfl rfl rfl (rd_load1 Tryd.to29 rfl (by first | (apply Cells.own; (repeat (first | exact List.mem_cons_self | apply List.mem_cons_of_mem)); done) | assumption) (by first | rfl | assumption | exact encOp_37 _ _ | exact encOp_36 _ _ | exact encOp_35 _ _ | exact encOp_0 _ _ | exact encOp_1 _ _ | exact encOp_2 _ _ | exact encDraft_0 _ | exact encDraft_1 _ | exact encDraft_2 _ | simp)) ?_
          refine gr_rd rfl rfl rfl (rd_lenS Tryd.underlying29 rfl) ?_
          refine gr_rd rfl rfl rfl (rd_move rfl) ?_
          refine gr_nil ?_
          refine gk_then ?_
          refine gc_block ?_
          refine gc_loop (fun k : Nat => [(2, pt b2 0), (3, pt b3 0), (36, i64 a.preds.length), (37, i64 k)]) (fun k H1 L1 => H = H1 ∧ (b3, .cells (encOp b (.slice B b.preds.length cb)).toArray 38 (0, 0)) :: (b2, .cells (encOp a (.slice A a.preds.length cv)).toArray 38 (0, 0)) :: L = L1 ∧ k ≤ a.preds.length ∧ ∀ j, j < k → a.preds.getD j Nm.zero = b.preds.getD j Nm.zero) (fun k => a.preds.length - k) (0) ?_ (by repeat (first | exact Subs.nil | refine Subs.cons rfl ?_)) ?_
          · exact ⟨rfl, rfl, Nat.zero_le _, fun j hj => absurd hj (Nat.not_lt_zero _)⟩
          · rintro k H1 L1 ⟨rfl, rfl, hk, hj⟩
            refine gc_seq ?_
            refine gc_seqr [(.mv, 0)] rfl ?_
            refine gr_rd rfl rfl rfl (rd_lss rfl rfl) ?_
            refine gr_nil ?_
            refine gk_then ?_
            refine gc_seq ?_
            refine gc_cond rfl (fun hc1 => ?_) (fun hc1 => ?_)
            · have hlt : k < a.preds.length := by simpa using hc1
              obtain ⟨hAe, hca, hsa⟩ := ids_at2 (i := (k : Int)) hv1 hv2 hlt rfl
              obtain ⟨hBe, hcb', hsb⟩ := ids_at2 (i := (k : Int)) hw1 hw2 (show k < b.preds.length by omega) rfl
              refine gc_skip ?_
              refine gk_then ?_
              refine gc_seq ?_
              refine gc_block ?_
              refine gc_seq ?_
              refine gc_seqr [(.mv, 0), (.mv, 1)] rfl ?_
              refine gr_rd rfl rfl rfl (rd_move rfl) ?_
              refine gr_rd rfl rfl rfl (rd_assign rfl) ?_
              refine gr_nil ?_
              refine gk_then ?_
              refine gc_seq ?_
              refine gc_draw Tryd.mixed [(.mv, 0), (.mv, 1), (.mv, 2), (.mv, 3), (.mv, 4), (.mv, 5), (.mv, 6), (.mv, 7), (.mv, 8), (.mv, 9), (.mv, 10)] (by decide +kernel) _ (List.Sublist.refl _) ?_
              refine gr_rd rfl rfl rfl (rd_fieldAddr Tryd.fa38_3 rfl) ?_
              refine gr_rd rfl rfl rfl (rd_load1 Tryd.to29 rfl (by first | (apply Cells.own; (repeat (first | exact List.mem_cons_self | apply List.mem_cons_of_mem)); done) | assumption) (by first | rfl | assumption | exact encOp_37 _ _ | exact encOp_36 _ _ | exact encOp_35 _ _ | exact encOp_0 _ _ | exact encOp_1 _ _ | exact encOp_2 _ _ | exact encDraft_0 _ | exact encDraft_1 _ | exact encDraft_2 _ | simp)) ?_
              refine gr_rd rfl rfl rfl (rd_move rfl) ?_
              refine gr_rd rfl rfl rfl (rd_indexS Tryd.underlying29 Tryd.sizeOf34 rfl rfl hAe (by omega) (by omega)) ?_
              refine gr_rd rfl rfl rfl (rd_loadA Tryd.ta34 rfl (mono_cons (mono_cons hca)) hsa (encId_length _)) ?_
              refine gr_rd rfl rfl rfl (rd_fieldAddr Tryd.fa38_3 rfl) ?_
              refine gr_rd rfl rfl rfl (rd_load1 Tryd.to29 rfl (by first | (apply Cells.own; (repeat (first | exact List.mem_cons_self | apply List.mem_cons_of_mem)); done) | assumption) (by first | rfl | assumption | exact encOp_37 _ _ | exact encOp_36 _ _ | exact encOp_35 _ _ | exact encOp_0 _ _ | exact encOp_1 _ _ | exact encOp_2 _ _ | exact encDraft_0 _ | exact encDraft_1 _ | exact encDraft_2 _ | simp)) ?_
              refine gr_rd rfl rfl rfl (rd_move rfl) ?_
              refine gr_rd rfl rfl rfl (rd_indexS Tryd.underlying29 Tryd.sizeOf34 rfl rfl hBe (by omega) (by omega)) ?_
              refine gr_rd rfl rfl rfl (rd_loadA Tryd.ta34 rfl (mono_cons (mono_cons hcb')) hsb (encId_length _)) ?_
              refine gr_rd rfl rfl rfl (rd_arrNe Tryd.tb34 (by first | exact Nm.len _ | assumption | simp) (by first | exact Nm.len _ | assumption | simp) rfl rfl) ?_
              refine gr_nil ?_
              refine gk_then ?_
              refine gc_cond rfl (fun hc2 => ?_) (fun hc2 => ?_)
              · skip
                refine gc_seq ?_
                refine gc_seqr [(.mv, 0)] rfl ?_
                refine gr_rd rfl rfl rfl (rd_assign rfl) ?_
                refine gr_nil ?_
                refine gk_then ?_
                refine gc_ret ?_
                refine gk_ret_inBlock ?_
                refine gk_ret_then ?_
                refine gk_ret_then ?_
                refine gk_ret_inBlock ?_
                refine gk_ret_then ?_
                refine gk_result (L' := L) (.inl rfl) _ (res1 rfl rfl) (by repeat (first | exact List.Sublist.refl _ | apply List.Sublist.cons_cons | apply List.Sublist.cons | apply List.Sublist.append (List.Sublist.refl _) | refine List.Sublist.trans ?_ (List.sublist_append_right _ _))) (by first | exact Gh.le_refl _ | assumption | exact Gh.le_trans (by assumption) (by assumption)) ?_
                exact ⟨by rw [op_ne_at hl hlt hc2], rfl, rfl⟩
              · skip
                refine gc_skip ?_
                refine gk_inBlock ?_
                refine gk_then ?_
                refine gc_seqr [(.mv, 0), (.mv, 1)] rfl ?_
                (first | refine gr_rd rfl rfl rfl (rd_add rfl rfl (IntWalk.i64_in _ (by omega))) ?_ | refine gr_rd rfl rfl rfl (rd_add rfl rfl rfl) ?_)
                refine gr_rd rfl rfl rfl (rd_move rfl) ?_
                refine gr_nil ?_
                refine gk_round (k + 1) (by omega) ⟨rfl, rfl, by omega, fun j hj2 => ?_⟩ (by repeat (first | exact Subs.nil | refine Subs.cons rfl ?_))
                by_cases e : j = k
                · subst e; exact Nm.ext' (by simpa using hc2)
                · exact hj j (by omega)
            · skip
              refine gc_exit ?_
              refine gk_exit_then ?_
              refine gk_exit_then ?_
              refine gk_here ?_
              refine gk_then ?_
              refine gc_seq ?_
              refine gc_seqr [(.mv, 0)] rfl ?_
              refine gr_rd rfl rfl rfl (rd_assign rfl) ?_
              refine gr_nil ?_
              refine gk_then ?_
              refine gc_ret ?_
              refine gk_result (L' := L) (.inl rfl) _ (res1 rfl rfl) (by repeat (first | exact List.Sublist.refl _ | apply List.Sublist.cons_cons | apply List.Sublist.cons | apply List.Sublist.append (List.Sublist.refl _) | refine List.Sublist.trans ?_ (List.sublist_append_right _ _))) (by first | exact Gh.le_refl _ | assumption | exact Gh.le_trans (by assumption) (by assumption)) ?_
              exact ⟨by rw [op_eq_all e1 e2 e3 hl (by simpa using hc1) hj], rfl, rfl⟩
end Go.Proofs.YtfhldfjknagidaaDoor
