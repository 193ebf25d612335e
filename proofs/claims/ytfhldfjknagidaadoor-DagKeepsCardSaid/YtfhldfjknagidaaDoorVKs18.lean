/-
  Walks: the program's set of operations: what lacks, how deep, what is put.
-/
import Derived.Test.YtfhldfjknagidaaDoorVKs17
set_option linter.unusedSimpArgs false
set_option linter.unusedVariables false
set_option linter.unnecessarySimpa false
set_option linter.all false
namespace Go.Proofs.YtfhldfjknagidaaDoor
open Go.VK Go.Tr
set_option maxRecDepth 20000
attribute [local irreducible] Go.Tr.sha
theorem cnt_le {l : List (Nm × POp)} (h : ∀ p ∈ l, p.2.preds.length ≤ 32) (n : Nm) : cnt l n ≤ 32 * l.length := by
  induction l with
  | nil => simp [cnt]
  | cons p r ih =>
    have h1 := ih fun q hq => h q (List.mem_cons_of_mem _ hq)
    have h2 := h p List.mem_cons_self
    have h3 := List.countP_le_length (p := (· == n)) (l := p.2.preds)
    simp only [cnt, List.map_cons, List.sum_cons, List.length_cons] at h1 ⊢
    omega
theorem count_take {l : List Nm} {k : Nat} (n : Nm) (h : k < l.length) : (l.take (k + 1)).countP (· == n) = (l.take k).countP (· == n) + if l.getD k Nm.zero = n then 1 else 0 := by
  rw [List.take_add_one, getD_at h]
  simp [List.countP_append, List.countP_cons]
structure PS where
  k : Nat
  ot : Obj

set_option maxHeartbeats 1000000 in
theorem lacks_cc (H : Gh) (L : Chunks) {b bo bw bt : Nat} {s : DSet} {ob ow ot : Obj} (hV : DView H L b bo bw bt s ob ow ot) (o : POp) (pv : Value) (hp : Ids H L pv o.preds) (hb : o.preds.length < 16777216) :
    CC Tryd.prog 44 #[pt b 0, ag (encOp o pv)] H L (fun v H' L' => ∃ C, Ow 34 32 C v (lacksOf s o).length ((lacksOf s o).flatMap encId) ∧ H = H' ∧ C ++ L = L') := by
  obtain ⟨A, bv, of, cv, lv, rfl, hcv, hnv, hv0, hv1, hv2⟩ := hp
  obtain ⟨m, hM, hmn, hlk⟩ := look_op hV.ops
  have hmo := hV.mo
  refine cc_of Tryd.func44 rfl (Nat.le_of_ble_eq_true rfl) ?_
  simp only [Tryd.ntmps44]
  refine gc_seq ?_
  refine gc_seqr [(.nm, 0), (.mv, 1)] rfl ?_
  refine gr_nx rfl rfl rfl (nx_box rfl rfl) ?_; rintro _ _ _ _ ⟨b3, rfl, rfl, rfl⟩; refine ⟨trivial, ?_⟩
  refine gr_rd rfl rfl rfl (rd_assign rfl) ?_
  refine gr_nil ?_
  refine gk_then ?_
  refine gc_seq ?_
  refine gc_seqr [(.mv, 0)] rfl ?_
  refine gr_rd rfl rfl rfl (rd_assign rfl) ?_
  refine gr_nil ?_
  refine gk_then ?_
  refine gc_seq ?_
  refine gc_seq ?_
  refine gc_seqr [(.mv, 0), (.mv, 1), (.mv, 2), (.mv, 3)] rfl ?_
  refine gr_rd rfl rfl rfl (rd_fieldAddr Tryd.fa38_3 rfl) ?_
  refine gr_rd rfl rfl rfl (rd_load1 Tryd.to29 rfl (by first | (apply Cells.own; (repeat (first | exact List.mem_cons_self | apply List.mem_cons_of_mem)); done) | assumption) (by first | rfl | assumption | exact encOp_37 _ _ | exact encOp_36 _ _ | exact encOp_35 _ _ | exact encOp_0 _ _ | exact encOp_1 _ _ | exact encOp_2 _ _ | exact encDraft_0 _ | exact encDraft_1 _ | exact encDraft_2 _ | simp)) ?_
  refine gr_rd rfl rfl rfl (rd_lenS Tryd.underlying29 rfl) ?_
  refine gr_rd rfl rfl rfl (rd_move rfl) ?_
  refine gr_nil ?_
  refine gk_then ?_
  refine gc_block ?_
  refine gc_loop (fun t : Nat × Value × Chunks => [(0, pt b 0), (5, t.2.1), (11, (.slice A o.preds.length cv)), (12, i64 o.preds.length), (13, i64 t.1)]) (fun t H1 L1 => H = H1 ∧ L1 = t.2.2 ++ ((b3, .cells (encOp o (.slice A o.preds.length cv)).toArray 38 (0, 0)) :: L) ∧ t.1 ≤ o.preds.length ∧ Ow 34 32 t.2.2 t.2.1 ((o.preds.take t.1).filter fun n => !has s.ops n).length (((o.preds.take t.1).filter fun n => !has s.ops n).flatMap encId)) (fun t => o.preds.length - t.1) ((0, nilS, [])) ?_ (by repeat (first | exact Subs.nil | refine Subs.cons rfl ?_)) ?_
  · exact ⟨rfl, rfl, Nat.zero_le _, Ow.nil⟩
  · rintro ⟨k, vo, C⟩ H1 L1 ⟨rfl, rfl, hk, hO⟩
    simp only at hk hO
    have hfl : ((o.preds.take k).filter fun n => !has s.ops n).length ≤ o.preds.length := Nat.le_trans (List.length_filter_le _ _) (by simp; omega)
    show GC _ _ _ _ [(0, pt b 0), (5, vo), (11, (.slice A o.preds.length cv)), (12, i64 o.preds.length), (13, i64 k)] H (C ++ ((b3, .cells (encOp o (.slice A o.preds.length cv)).toArray 38 (0, 0)) :: L))
    refine gc_seq ?_
    refine gc_seqr [(.mv, 0)] rfl ?_
    refine gr_rd rfl rfl rfl (rd_lss rfl rfl) ?_
    refine gr_nil ?_
    refine gk_then ?_
    refine gc_seq ?_
    refine gc_cond rfl (fun hc0 => ?_) (fun hc0 => ?_)
    · have hlt : k < o.preds.length := by simpa using hc0
      obtain ⟨hAe, hca, hsa⟩ := ids_at2 (i := (k : Int)) hv1 hv2 hlt rfl
      refine gc_skip ?_
      refine gk_then ?_
      refine gc_seq ?_
      refine gc_block ?_
      refine gc_seq ?_
      refine gc_seqr [(.mv, 0), (.mv, 1), (.nm, 2), (.nm, 3)] rfl ?_
      refine gr_rd rfl rfl rfl (rd_indexS Tryd.underlying29 Tryd.sizeOf34 rfl rfl hAe (by omega) (by omega)) ?_
      refine gr_rd rfl rfl rfl (rd_loadA Tryd.ta34 rfl (hca.mono (Gh.le_refl _) (by intro x hx; simp [baseL, hx])) hsa (encId_length _)) ?_
      refine gr_nx rfl rfl rfl (nx_alloc Tryd.zeroValue34 rfl) ?_; rintro _ _ _ _ ⟨b7, rfl, rfl, rfl⟩; refine ⟨trivial, ?_⟩
      refine gr_nx0 rfl rfl (nx_store (vs := encId (o.preds.getD k Nm.zero)) Tryd.sizeOf34 rfl rfl rfl (encId_length _) (by repeat (first | exact Upd.here | exact Upd.appl (by assumption) | apply Upd.there | apply Upd.app)) (by simp) (encId_ones _)) ?_; rintro _ _ _ _ ⟨rfl, rfl, rfl⟩; refine ⟨trivial, ?_⟩
      rw [wr_all (by simp)]
      refine gr_nil ?_
      refine gk_then ?_
      refine gc_seq ?_
      refine gc_draw Tryd.mixed [(.mv, 0), (.mv, 1), (.mv, 2), (.mv, 3), (.mv, 4), (.mv, 5), (.mv, 6), (.mv, 7), (.mv, 8), (.nm, 9), (.nm, 10), (.mv, 11)] (by decide +kernel) _ (List.Sublist.refl _) ?_
      refine gr_rd rfl rfl rfl (rd_move rfl) ?_
      refine gr_rd rfl rfl rfl (rd_nilCheck rfl) ?_
      refine gr_rd rfl rfl rfl (rd_fieldAddr Tryd.fa83_0 rfl) ?_
      refine gr_rd rfl rfl rfl (rd_load1 Tryd.to80 rfl (hV.cells.mono (Gh.le_refl _) (by intro x hx; simp [baseL, hx])) rfl) ?_
      refine gr_rd rfl rfl rfl (rd_loadA Tryd.ta34 rfl (Cells.own (l := encId (o.preds.getD k Nm.zero)) (T := 34) (z := (0, 0)) (by simp [baseL])) (Seg.all _) (encId_length _)) ?_
      refine gr_rd rfl rfl rfl (rd_lookupOk Tryd.tm Tryd.zop rfl rfl (by simp [baseL, hmo]) hM) ?_
      obtain ⟨q, pq, hq1, hq2, hq3, hq4⟩ := hlk (o.preds.getD k Nm.zero)
      rw [hq1, hq2]
      refine gr_rd rfl rfl rfl (rd_move rfl) ?_
      refine gr_rd rfl rfl rfl (rd_extract rfl rfl) ?_
      refine gr_rd rfl rfl rfl (rd_extract rfl rfl) ?_
      refine gr_nx rfl rfl rfl (nx_alloc Tryd.zeroValue38 rfl) ?_; rintro _ _ _ _ ⟨b8, rfl, rfl, rfl⟩; refine ⟨⟨(by first | exact Gh.le_refl _ | assumption | exact Gh.le_trans (by assumption) (by assumption)), (by repeat (first | exact List.Sublist.refl _ | exact List.nil_sublist _ | apply List.Sublist.cons_cons | apply List.Sublist.cons | apply List.Sublist.append (List.Sublist.refl _) | refine List.Sublist.trans ?_ (List.sublist_append_right _ _)))⟩, ?_⟩
      refine gr_nx0 rfl rfl (nx_store (vs := encOp q pq) Tryd.sizeOf38 rfl rfl rfl (encOp_length _ _) (by repeat (first | exact Upd.here | exact Upd.appl (by assumption) | apply Upd.there | apply Upd.app)) (by simp) (encOp_ones _ hq3.one)) ?_; rintro _ _ _ _ ⟨rfl, rfl, rfl⟩; refine ⟨⟨(by first | exact Gh.le_refl _ | assumption | exact Gh.le_trans (by assumption) (by assumption)), (by repeat (first | exact List.Sublist.refl _ | exact List.nil_sublist _ | apply List.Sublist.cons_cons | apply List.Sublist.cons | apply List.Sublist.append (List.Sublist.refl _) | refine List.Sublist.trans ?_ (List.sublist_append_right _ _)))⟩, ?_⟩
      rw [wr_all (by simp)]
      refine gr_rd rfl rfl rfl (rd_assign rfl) ?_
      refine gr_nil ?_
      refine gk_then ?_
      refine gc_seq ?_
      refine gc_seqr [(.mv, 0), (.mv, 1)] rfl ?_
      refine gr_rd rfl rfl rfl (rd_move rfl) ?_
      refine gr_rd rfl rfl rfl (rd_not rfl) ?_
      refine gr_nil ?_
      refine gk_then ?_
      refine gc_cond rfl (fun hcR6 => ?_) (fun hcR6 => ?_)
      · skip
        refine gc_seqr [(.mv, 0), (.mv, 1), (.nm, 2), (.nm, 3), (.mv, 4)] rfl ?_
        refine gr_rd rfl rfl rfl (rd_move rfl) ?_
        refine gr_rd rfl rfl rfl (rd_loadA Tryd.ta34 rfl (Cells.own (l := encId (o.preds.getD k Nm.zero)) (T := 34) (z := (0, 0)) (by simp [baseL])) (Seg.all _) (encId_length _)) ?_
        refine gr_nx rfl rfl rfl (nx_sliceA1 Tryd.underlying29 Tryd.sizeOf34 Tryd.zeroValue34 rfl rfl rfl (by first | exact encId_length _ | exact encOp_length _ _ | exact encDraft_length _ | rfl | simp) rfl) ?_; rintro _ _ _ _ ⟨b30, rfl, rfl, rfl⟩; refine ⟨trivial, ?_⟩
        refine gr_nx rfl rfl rfl (nx_append (m := 1) Tryd.app29_29 rfl rfl hO (by repeat (first | exact Pick.here | exact Pick.one | apply Pick.there | apply Pick.app)) (src_slice (b := b30) (o := 0) (l := encId (o.preds.getD k Nm.zero)) (m := 1) (by simp) (encId_ones _) (fun h => by cases h) (fun _ _ => ⟨rfl, Cells.own List.mem_cons_self, Seg.all _⟩)) (by omega) (by omega)) ?_; rintro v31 H' L' hle ⟨C2, hO2, _, rfl, rfl⟩; refine ⟨trivial, ?_⟩
        refine gr_rd rfl rfl rfl (rd_assign rfl) ?_
        refine gr_nil ?_
        refine gk_inBlock ?_
        refine gk_then ?_
        refine gc_seqr [(.mv, 0), (.mv, 1)] rfl ?_
        (first | refine gr_rd rfl rfl rfl (rd_add rfl rfl (IntWalk.i64_in _ (by omega))) ?_ | refine gr_rd rfl rfl rfl (rd_add rfl rfl rfl) ?_)
        refine gr_rd rfl rfl rfl (rd_move rfl) ?_
        refine gr_nil ?_
        first
          | (refine gk_drop (L' := C2 ++ ((b3, .cells (encOp o (.slice A o.preds.length cv)).toArray 38 (0, 0)) :: L)) (by repeat (first | exact List.Sublist.refl _ | apply List.Sublist.append (List.Sublist.refl _) | apply List.Sublist.cons)) ?_
             refine gk_round (k + 1, _, C2) ?_ ?_ (by repeat (first | exact Subs.nil | refine Subs.cons rfl ?_))
             · show o.preds.length - (k + 1) < o.preds.length - k
               omega
             · refine ⟨rfl, rfl, by simp only; omega, ?_⟩
               simp only
               rw [filter_take _ hlt, if_pos hcR6]
               simpa using hO2)
          | (refine gk_drop (L' := C ++ ((b3, .cells (encOp o (.slice A o.preds.length cv)).toArray 38 (0, 0)) :: L)) (by repeat (first | exact List.Sublist.refl _ | apply List.Sublist.append (List.Sublist.refl _) | apply List.Sublist.cons)) ?_
             refine gk_round (k + 1, _, C) ?_ ?_ (by repeat (first | exact Subs.nil | refine Subs.cons rfl ?_))
             · show o.preds.length - (k + 1) < o.preds.length - k
               omega
             · refine ⟨rfl, rfl, by simp only; omega, ?_⟩
               simp only
               rw [filter_take _ hlt, if_neg (by rw [hcR6]; decide), List.append_nil]
               exact hO)
      · skip
        refine gc_skip ?_
        refine gk_inBlock ?_
        refine gk_then ?_
        refine gc_seqr [(.mv, 0), (.mv, 1)] rfl ?_
        (first | refine gr_rd rfl rfl rfl (rd_add rfl rfl (IntWalk.i64_in _ (by omega))) ?_ | refine gr_rd rfl rfl rfl (rd_add rfl rfl rfl) ?_)
        refine gr_rd rfl rfl rfl (rd_move rfl) ?_
        refine gr_nil ?_
        first
          | (refine gk_drop (L' := C2 ++ ((b3, .cells (encOp o (.slice A o.preds.length cv)).toArray 38 (0, 0)) :: L)) (by repeat (first | exact List.Sublist.refl _ | apply List.Sublist.append (List.Sublist.refl _) | apply List.Sublist.cons)) ?_
             refine gk_round (k + 1, _, C2) ?_ ?_ (by repeat (first | exact Subs.nil | refine Subs.cons rfl ?_))
             · show o.preds.length - (k + 1) < o.preds.length - k
               omega
             · refine ⟨rfl, rfl, by simp only; omega, ?_⟩
               simp only
               rw [filter_take _ hlt, if_pos hcR6]
               simpa using hO2)
          | (refine gk_drop (L' := C ++ ((b3, .cells (encOp o (.slice A o.preds.length cv)).toArray 38 (0, 0)) :: L)) (by repeat (first | exact List.Sublist.refl _ | apply List.Sublist.append (List.Sublist.refl _) | apply List.Sublist.cons)) ?_
             refine gk_round (k + 1, _, C) ?_ ?_ (by repeat (first | exact Subs.nil | refine Subs.cons rfl ?_))
             · show o.preds.length - (k + 1) < o.preds.length - k
               omega
             · refine ⟨rfl, rfl, by simp only; omega, ?_⟩
               simp only
               rw [filter_take _ hlt, if_neg (by rw [hcR6]; decide), List.append_nil]
               exact hO)
    · have hge : k = o.preds.length := by simp at hc0; omega
      subst hge
      rw [List.take_length] at hO
      refine gc_exit ?_
      refine gk_exit_then ?_
      refine gk_exit_then ?_
      refine gk_here ?_
      refine gk_then ?_
      refine gc_seq ?_
      refine gc_seqr [(.mv, 0), (.mv, 1)] rfl ?_
      refine gr_rd rfl rfl rfl (rd_move rfl) ?_
      refine gr_rd rfl rfl rfl (rd_assign rfl) ?_
      refine gr_nil ?_
      refine gk_then ?_
      refine gc_ret ?_
      refine gk_result (L' := C ++ L) (.inl rfl) _ (res1 rfl rfl) (by repeat (first | exact List.Sublist.refl _ | apply List.Sublist.cons_cons | apply List.Sublist.cons | apply List.Sublist.append (List.Sublist.refl _) | refine List.Sublist.trans ?_ (List.sublist_append_right _ _))) (by first | exact Gh.le_refl _ | assumption | exact Gh.le_trans (by assumption) (by assumption)) ?_
      exact ⟨C, hO, rfl, rfl⟩
set_option maxHeartbeats 1000000 in
theorem depth_cc (H : Gh) (L : Chunks) {b bo bw bt : Nat} {s : DSet} {ob ow ot : Obj} (hV : DView H L b bo bw bt s ob ow ot) (o : POp) (pv : Value) (hp : Ids H L pv o.preds) :
    CC Tryd.prog 60 #[pt b 0, ag (encOp o pv)] H L (fun v H' L' => v = i64 (depthOf s o.preds) ∧ H = H' ∧ L = L') := by
  obtain ⟨A, bv, of, cv, lv, rfl, hcv, hnv, hv0, hv1, hv2⟩ := hp
  obtain ⟨m, hM, hmn, hlk⟩ := look_op hV.ops
  have hmo := hV.mo
  refine cc_of Tryd.func60 rfl (Nat.le_of_ble_eq_true rfl) ?_
  simp only [Tryd.ntmps60]
  refine gc_seq ?_
  refine gc_seqr [(.nm, 0), (.mv, 1)] rfl ?_
  refine gr_nx rfl rfl rfl (nx_box rfl rfl) ?_; rintro _ _ _ _ ⟨b3, rfl, rfl, rfl⟩; refine ⟨trivial, ?_⟩
  refine gr_rd rfl rfl rfl (rd_assign rfl) ?_
  refine gr_nil ?_
  refine gk_then ?_
  refine gc_seq ?_
  refine gc_seqr [(.mv, 0)] rfl ?_
  refine gr_rd rfl rfl rfl (rd_assign rfl) ?_
  refine gr_nil ?_
  refine gk_then ?_
  refine gc_seq ?_
  refine gc_seq ?_
  refine gc_seqr [(.mv, 0), (.mv, 1), (.mv, 2), (.mv, 3)] rfl ?_
  refine gr_rd rfl rfl rfl (rd_fieldAddr Tryd.fa38_3 rfl) ?_
  refine gr_rd rfl rfl rfl (rd_load1 Tryd.to29 rfl (by first | (apply Cells.own; (repeat (first | exact List.mem_cons_self | apply List.mem_cons_of_mem)); done) | assumption) (by first | rfl | assumption | exact encOp_37 _ _ | exact encOp_36 _ _ | exact encOp_35 _ _ | exact encOp_0 _ _ | exact encOp_1 _ _ | exact encOp_2 _ _ | exact encDraft_0 _ | exact encDraft_1 _ | exact encDraft_2 _ | simp)) ?_
  refine gr_rd rfl rfl rfl (rd_lenS Tryd.underlying29 rfl) ?_
  refine gr_rd rfl rfl rfl (rd_move rfl) ?_
  refine gr_nil ?_
  refine gk_then ?_
  refine gc_block ?_
  refine gc_loop (fun k : Nat => [(0, pt b 0), (5, i64 (deepest s (o.preds.take k))), (9, (.slice A o.preds.length cv)), (10, i64 o.preds.length), (11, i64 k)]) (fun k H1 L1 => H = H1 ∧ (b3, .cells (encOp o (.slice A o.preds.length cv)).toArray 38 (0, 0)) :: L = L1 ∧ k ≤ o.preds.length) (fun k => o.preds.length - k) (0) ?_ (by repeat (first | exact Subs.nil | refine Subs.cons rfl ?_)) ?_
  · exact ⟨rfl, rfl, Nat.zero_le _⟩
  · rintro k H1 L1 ⟨rfl, rfl, hk⟩
    refine gc_seq ?_
    refine gc_seqr [(.mv, 0)] rfl ?_
    refine gr_rd rfl rfl rfl (rd_lss rfl rfl) ?_
    refine gr_nil ?_
    refine gk_then ?_
    refine gc_seq ?_
    refine gc_cond rfl (fun hc0 => ?_) (fun hc0 => ?_)
    · have hlt : k < o.preds.length := by simpa using hc0
      obtain ⟨hAe, hca, hsa⟩ := ids_at2 (i := (k : Int)) hv1 hv2 hlt rfl
      refine gc_skip ?_
      refine gk_then ?_
      refine gc_seq ?_
      refine gc_block ?_
      refine gc_seq ?_
      refine gc_seqr [(.mv, 0), (.mv, 1), (.nm, 2), (.nm, 3)] rfl ?_
      refine gr_rd rfl rfl rfl (rd_indexS Tryd.underlying29 Tryd.sizeOf34 rfl rfl hAe (by omega) (by omega)) ?_
      refine gr_rd rfl rfl rfl (rd_loadA Tryd.ta34 rfl (hca.mono (Gh.le_refl _) (by intro x hx; simp [baseL, hx])) hsa (encId_length _)) ?_
      refine gr_nx rfl rfl rfl (nx_alloc Tryd.zeroValue34 rfl) ?_; rintro _ _ _ _ ⟨b7, rfl, rfl, rfl⟩; refine ⟨trivial, ?_⟩
      refine gr_nx0 rfl rfl (nx_store (vs := encId (o.preds.getD k Nm.zero)) Tryd.sizeOf34 rfl rfl rfl (encId_length _) (by repeat (first | exact Upd.here | exact Upd.appl (by assumption) | apply Upd.there | apply Upd.app)) (by simp) (encId_ones _)) ?_; rintro _ _ _ _ ⟨rfl, rfl, rfl⟩; refine ⟨trivial, ?_⟩
      rw [wr_all (by simp)]
      refine gr_nil ?_
      refine gk_then ?_
      refine gc_draw Tryd.mixed [(.mv, 0), (.mv, 1), (.mv, 2), (.mv, 3), (.mv, 4), (.mv, 5), (.mv, 6), (.mv, 7), (.mv, 8), (.mv, 9)] (by decide +kernel) _ (List.Sublist.refl _) ?_
      refine gr_rd rfl rfl rfl (rd_move rfl) ?_
      refine gr_rd rfl rfl rfl (rd_move rfl) ?_
      refine gr_rd rfl rfl rfl (rd_nilCheck rfl) ?_
      refine gr_rd rfl rfl rfl (rd_fieldAddr Tryd.fa83_0 rfl) ?_
      refine gr_rd rfl rfl rfl (rd_load1 Tryd.to80 rfl (hV.cells.mono (Gh.le_refl _) (by intro x hx; simp [baseL, hx])) rfl) ?_
      refine gr_rd rfl rfl rfl (rd_loadA Tryd.ta34 rfl (Cells.own (l := encId (o.preds.getD k Nm.zero)) (T := 34) (z := (0, 0)) (by simp [baseL])) (Seg.all _) (encId_length _)) ?_
      refine gr_rd rfl rfl rfl (rd_lookup Tryd.tm Tryd.zop rfl rfl (by simp [baseL, hmo]) hM) ?_
      obtain ⟨q, pq, hq1, hq2, hq3, hq4⟩ := hlk (o.preds.getD k Nm.zero)
      rw [hq1]
      refine gr_rd rfl rfl rfl (rd_field1 Tryd.underlying38 rfl Tryd.to3 rfl (encOp_36 q pq)) ?_
      refine gr_rd rfl rfl rfl (rd_max2 rfl rfl (imax_eq _ _)) ?_
      refine gr_rd rfl rfl rfl (rd_assign rfl) ?_
      refine gr_nil ?_
      refine gk_inBlock ?_
      refine gk_then ?_
      refine gc_seqr [(.mv, 0), (.mv, 1)] rfl ?_
      (first | refine gr_rd rfl rfl rfl (rd_add rfl rfl (IntWalk.i64_in _ (by omega))) ?_ | refine gr_rd rfl rfl rfl (rd_add rfl rfl rfl) ?_)
      refine gr_rd rfl rfl rfl (rd_move rfl) ?_
      refine gr_nil ?_
      refine gk_drop (L' := (b3, .cells (encOp o (.slice A o.preds.length cv)).toArray 38 (0, 0)) :: L) (by repeat (first | exact List.Sublist.refl _ | apply List.Sublist.cons_cons | apply List.Sublist.cons | apply List.Sublist.append (List.Sublist.refl _) | refine List.Sublist.trans ?_ (List.sublist_append_right _ _))) ?_
      refine gk_round (k + 1) (by omega) ⟨rfl, rfl, by omega⟩ ?_
      refine Subs.cons rfl (Subs.cons ?_ (by repeat (first | exact Subs.nil | refine Subs.cons rfl ?_)))
      simp only [find, cond]
      rw [deepest_step2 (getD_at hlt) hq4]
    · have hge : k = o.preds.length := by simp at hc0; omega
      subst hge
      rw [List.take_length]
      refine gc_exit ?_
      refine gk_exit_then ?_
      refine gk_exit_then ?_
      refine gk_here ?_
      refine gk_then ?_
      refine gc_seq ?_
      refine gc_seqr [(.mv, 0), (.mv, 1), (.mv, 2)] rfl ?_
      refine gr_rd rfl rfl rfl (rd_move rfl) ?_
      refine gr_rd rfl rfl rfl (rd_add rfl rfl (IntKind.wrap_i64 _)) ?_
      refine gr_rd rfl rfl rfl (rd_assign rfl) ?_
      refine gr_nil ?_
      refine gk_then ?_
      refine gc_ret ?_
      refine gk_result (L' := L) (.inl rfl) _ (res1 rfl rfl) (by repeat (first | exact List.Sublist.refl _ | apply List.Sublist.cons_cons | apply List.Sublist.cons | apply List.Sublist.append (List.Sublist.refl _) | refine List.Sublist.trans ?_ (List.sublist_append_right _ _))) (by first | exact Gh.le_refl _ | assumption | exact Gh.le_trans (by assumption) (by assumption)) ?_
      exact ⟨rfl, rfl, rfl⟩
set_option maxHeartbeats 2000000 in
theorem put_cc (H : Gh) (L : Chunks) {b bo bw bt : Nat} {s : DSet} {ob ow ot : Obj} (hR : DRep H s ob ow ot) (hz : s.ops.length < 16777216) (n : Nm) (o : POp) (pv : Value) (hp : Ids H [] pv o.preds) (hn : has s.ops n = false) (hsm : o.preds.length ≤ 32) :
    CC Tryd.prog 46 #[pt b 0, ag (encId n), ag (encOp o pv)] H ((b, .cells [.map (some bo), .map (some bw), .map (some bt)].toArray 83 (0, 0)) :: (bo, ob) :: (bw, ow) :: (bt, ot) :: L) (fun v H' L' => ∃ ob' ot', v = .bool (decide (o.depth = depthOf s o.preds)) ∧ (o.depth = depthOf s o.preds → EntO H ob' (s.ops ++ [(n, o)]) ∧ CntO ot' (cnt (s.ops ++ [(n, o)]))) ∧ (¬ o.depth = depthOf s o.preds → ob' = ob ∧ ot' = ot) ∧ H = H' ∧ ((b, .cells [.map (some bo), .map (some bw), .map (some bt)].toArray 83 (0, 0)) :: (bo, ob') :: (bw, ow) :: (bt, ot') :: L) = L') := by
  have hp0 := hp
  obtain ⟨A, bv, of, cv, lv, rfl, hcv, hnv, hv0, hv1, hv2⟩ := hp
  obtain ⟨mo, hMo, hst⟩ := hR.ops.store hn hp0
  have hcb := cnt_le (l := s.ops) (fun p hp => hR.small p (List.mem_append_left _ hp))
  refine cc_of Tryd.func46 rfl (Nat.le_of_ble_eq_true rfl) ?_
  simp only [Tryd.ntmps46]
  refine gc_seq ?_
  refine gc_seqr [(.nm, 0), (.nm, 1), (.mv, 2)] rfl ?_
  refine gr_nx rfl rfl rfl (nx_box rfl rfl) ?_; rintro _ _ _ _ ⟨b4, rfl, rfl, rfl⟩; refine ⟨trivial, ?_⟩
  refine gr_nx rfl rfl rfl (nx_box rfl rfl) ?_; rintro _ _ _ _ ⟨b5, rfl, rfl, rfl⟩; refine ⟨trivial, ?_⟩
  refine gr_rd rfl rfl rfl (rd_assign rfl) ?_
  refine gr_nil ?_
  refine gk_then ?_
  refine gc_seq ?_
  refine gc_seq ?_
  refine gc_draw Tryd.mixed [(.mv, 0), (.mv, 1), (.mv, 2), (.mv, 3), (.nm, 4), (.mv, 5)] (by decide +kernel) _ (List.Sublist.refl _) ?_
  refine gr_rd rfl rfl rfl (rd_fieldAddr Tryd.fa38_2 rfl) ?_
  refine gr_rd rfl rfl rfl (rd_load1 Tryd.to3 rfl (Cells.own (l := encOp o (.slice A o.preds.length cv)) (T := 38) (z := (0, 0)) (by simp [baseL])) (encOp_36 _ _)) ?_
  refine gr_rd rfl rfl rfl (rd_move rfl) ?_
  refine gr_rd rfl rfl rfl (rd_loadA Tryd.ta38 rfl (Cells.own (l := encOp o (.slice A o.preds.length cv)) (T := 38) (z := (0, 0)) (by simp [baseL])) (Seg.all _) (encOp_length _ _)) ?_
  refine gr_nx rfl rfl rfl (nx_call Tryd.en60 rfl (depth_cc _ _ (bo := bo) (bw := bw) (bt := bt) (ob := ob) (ow := ow) (ot := ot) ⟨(Cells.own (l := [.map (some bo), .map (some bw), .map (some bt)]) (T := 83) (z := (0, 0)) (by simp )), by simp, by simp, by simp, hR.ops, hR.wait, hR.cnt⟩ o _ hp0.any)) ?_; rintro v13 H' L' hle ⟨rfl, rfl, rfl⟩; refine ⟨⟨(by first | exact Gh.le_refl _ | assumption | exact Gh.le_trans (by assumption) (by assumption)), (by repeat (first | exact List.Sublist.refl _ | exact List.nil_sublist _ | apply List.Sublist.cons_cons | apply List.Sublist.cons | apply List.Sublist.append (List.Sublist.refl _) | refine List.Sublist.trans ?_ (List.sublist_append_right _ _)))⟩, ?_⟩
  refine gr_rd rfl rfl rfl (rd_neq rfl rfl) ?_
  refine gr_nil ?_
  refine gk_then ?_
  refine gc_cond rfl (fun hc0 => ?_) (fun hc0 => ?_)
  · have hd : ¬ o.depth = depthOf s o.preds := iN_t.1 hc0
    refine gc_seq ?_
    refine gc_seqr [(.mv, 0)] rfl ?_
    refine gr_rd rfl rfl rfl (rd_assign rfl) ?_
    refine gr_nil ?_
    refine gk_then ?_
    refine gc_ret ?_
    refine gk_ret_then ?_
    refine gk_drop (L' := ((b, .cells [.map (some bo), .map (some bw), .map (some bt)].toArray 83 (0, 0)) :: (bo, ob) :: (bw, ow) :: (bt, ot) :: L)) (by repeat (first | exact List.Sublist.refl _ | exact List.nil_sublist _ | apply List.Sublist.cons_cons | apply List.Sublist.cons | refine List.Sublist.trans ?_ (List.sublist_append_right _ _))) ?_
    refine gk_result (L' := ((b, .cells [.map (some bo), .map (some bw), .map (some bt)].toArray 83 (0, 0)) :: (bo, ob) :: (bw, ow) :: (bt, ot) :: L)) (.inl rfl) _ (res1 rfl rfl) (List.Sublist.refl _) (Gh.le_refl _) ?_
    exact ⟨ob, ot, by rw [decide_eq_false hd], fun h => absurd h hd, fun _ => ⟨rfl, rfl⟩, rfl, rfl⟩
  · have hd : o.depth = depthOf s o.preds := iN_f.1 hc0
    refine gc_skip ?_
    refine gk_then ?_
    refine gc_seq ?_
    refine gc_draw Tryd.mixed [(.mv, 0), (.mv, 1), (.mv, 2), (.mv, 3), (.mv, 4), (.mv, 5), (.fin, 6)] (by decide +kernel) _ (List.Sublist.refl _) ?_
    refine gr_rd rfl rfl rfl (rd_move rfl) ?_
    refine gr_rd rfl rfl rfl (rd_nilCheck rfl) ?_
    refine gr_rd rfl rfl rfl (rd_fieldAddr Tryd.fa83_0 rfl) ?_
    refine gr_rd rfl rfl rfl (rd_load1 Tryd.to80 rfl (Cells.own (l := [.map (some bo), .map (some bw), .map (some bt)]) (T := 83) (z := (0, 0)) (by simp [baseL])) rfl) ?_
    refine gr_rd rfl rfl rfl (rd_loadA Tryd.ta34 rfl (Cells.own (l := encId n) (T := 34) (z := (0, 0)) (by simp [baseL])) (Seg.all _) (encId_length _)) ?_
    refine gr_rd rfl rfl rfl (rd_loadA Tryd.ta38 rfl (Cells.own (l := encOp o (.slice A o.preds.length cv)) (T := 38) (z := (0, 0)) (by simp [baseL])) (Seg.all _) (encOp_length _ _)) ?_
    refine gr_fin0 rfl rfl (nx_mapUpd (F := fun o1 => ((b5, .cells (encOp o (.slice A o.preds.length cv)).toArray 38 (0, 0)) :: (b4, .cells (encId n).toArray 34 (0, 0)) :: ((b, .cells [.map (some bo), .map (some bw), .map (some bt)].toArray 83 (0, 0)) :: (bo, o1) :: (bw, ow) :: (bt, ot) :: L))) Tryd.tm rfl rfl rfl hMo (fun _ => (by repeat (first | exact Upd.here | exact Upd.appl (by assumption) | apply Upd.there | apply Upd.app)))) ?_; rintro _ H' L' hle ⟨ob1, rfl, rfl, hM1, rfl⟩
    have hE1 := hst ob1 hM1
    refine gr_nil ?_
    refine gk_then ?_
    refine gc_seq ?_
    refine gc_seq ?_
    refine gc_seqr [(.mv, 0), (.mv, 1), (.mv, 2), (.mv, 3)] rfl ?_
    refine gr_rd rfl rfl rfl (rd_fieldAddr Tryd.fa38_3 rfl) ?_
    refine gr_rd rfl rfl rfl (rd_load1 Tryd.to29 rfl (by first | (apply Cells.own; (repeat (first | exact List.mem_cons_self | apply List.mem_cons_of_mem)); done) | assumption) (by first | rfl | assumption | exact encOp_37 _ _ | exact encOp_36 _ _ | exact encOp_35 _ _ | exact encOp_0 _ _ | exact encOp_1 _ _ | exact encOp_2 _ _ | exact encDraft_0 _ | exact encDraft_1 _ | exact encDraft_2 _ | simp)) ?_
    refine gr_rd rfl rfl rfl (rd_lenS Tryd.underlying29 rfl) ?_
    refine gr_rd rfl rfl rfl (rd_move rfl) ?_
    refine gr_nil ?_
    refine gk_then ?_
    refine gc_block ?_
    refine gc_loop (fun t : PS => [(0, pt b 0), (22, (.slice A o.preds.length cv)), (23, i64 o.preds.length), (24, i64 t.k)]) (fun t H1 L1 => H = H1 ∧ ((b5, .cells (encOp o (.slice A o.preds.length cv)).toArray 38 (0, 0)) :: (b4, .cells (encId n).toArray 34 (0, 0)) :: ((b, .cells [.map (some bo), .map (some bw), .map (some bt)].toArray 83 (0, 0)) :: (bo, ob1) :: (bw, ow) :: (bt, t.ot) :: L)) = L1 ∧ t.k ≤ o.preds.length ∧ CntO t.ot (fun n' => cnt s.ops n' + (o.preds.take t.k).countP (· == n'))) (fun t => o.preds.length - t.k) (⟨0, ot⟩) ?_ (by repeat (first | exact Subs.nil | refine Subs.cons rfl ?_)) ?_
    · exact ⟨rfl, rfl, Nat.zero_le _, hR.cnt⟩
    · rintro ⟨k, otk⟩ H1 L1 ⟨rfl, rfl, hk, mt, hMt, hct⟩
      simp only at hk hMt hct
      show GC _ _ _ _ [(0, pt b 0), (22, (.slice A o.preds.length cv)), (23, i64 o.preds.length), (24, i64 k)] H ((b5, .cells (encOp o (.slice A o.preds.length cv)).toArray 38 (0, 0)) :: (b4, .cells (encId n).toArray 34 (0, 0)) :: ((b, .cells [.map (some bo), .map (some bw), .map (some bt)].toArray 83 (0, 0)) :: (bo, ob1) :: (bw, ow) :: (bt, otk) :: L))
      refine gc_seq ?_
      refine gc_seqr [(.mv, 0)] rfl ?_
      refine gr_rd rfl rfl rfl (rd_lss rfl rfl) ?_
      refine gr_nil ?_
      refine gk_then ?_
      refine gc_seq ?_
      refine gc_cond rfl (fun hc1 => ?_) (fun hc1 => ?_)
      · have hlt : k < o.preds.length := by simpa using hc1
        obtain ⟨hAe, hca, hsa⟩ := ids_at2 (i := (k : Int)) hv1 hv2 hlt rfl
        have hfb : cnt s.ops (o.preds.getD k Nm.zero) ≤ 32 * s.ops.length := hcb _
        have hfc : (o.preds.take k).countP (· == (o.preds.getD k Nm.zero)) ≤ o.preds.length := Nat.le_trans List.countP_le_length (by simp; omega)
        refine gc_skip ?_
        refine gk_then ?_
        refine gc_seq ?_
        refine gc_block ?_
        refine gc_seq ?_
        refine gc_seqr [(.mv, 0), (.mv, 1), (.nm, 2), (.nm, 3)] rfl ?_
        refine gr_rd rfl rfl rfl (rd_indexS Tryd.underlying29 Tryd.sizeOf34 rfl rfl hAe (by omega) (by omega)) ?_
        refine gr_rd rfl rfl rfl (rd_loadA Tryd.ta34 rfl (hca.mono (Gh.le_refl _) (by intro x hx; cases hx)) hsa (encId_length _)) ?_
        refine gr_nx rfl rfl rfl (nx_alloc Tryd.zeroValue34 rfl) ?_; rintro _ _ _ _ ⟨b8, rfl, rfl, rfl⟩; refine ⟨trivial, ?_⟩
        refine gr_nx0 rfl rfl (nx_store (vs := encId (o.preds.getD k Nm.zero)) Tryd.sizeOf34 rfl rfl rfl (encId_length _) (by repeat (first | exact Upd.here | exact Upd.appl (by assumption) | apply Upd.there | apply Upd.app)) (by simp) (encId_ones _)) ?_; rintro _ _ _ _ ⟨rfl, rfl, rfl⟩; refine ⟨trivial, ?_⟩
        rw [wr_all (by simp)]
        refine gr_nil ?_
        refine gk_then ?_
        refine gc_draw3 Tryd.mixed [(.mv, 0), (.mv, 1), (.mv, 2), (.mv, 3), (.mv, 4)] 5 7 [(.mv, 6), (.mv, 8), (.fin, 9)] [(.mv, 6), (.nm, 7), (.mv, 8), (.fin, 9)] [(.mv, 8), (.nm, 5), (.mv, 6), (.fin, 9)] (by decide +kernel) [(b8, .cells (encId (o.preds.getD k Nm.zero)).toArray 34 (0, 0)), (b, .cells [.map (some bo), .map (some bw), .map (some bt)].toArray 83 (0, 0))] ((by repeat (first | exact List.Sublist.refl _ | exact List.nil_sublist _ | apply List.Sublist.cons_cons | apply List.Sublist.cons | refine List.Sublist.trans ?_ (List.sublist_append_right _ _)))) ?_ ?_
        · skip
          show GR _ _ _ _ _ _ [(.mv, 0), (.mv, 1), (.mv, 2), (.mv, 3), (.mv, 4), (.nm, 5), (.mv, 6), (.nm, 7), (.mv, 8), (.fin, 9)] _ _
          refine gr_rd rfl rfl rfl (rd_move rfl) ?_
          refine gr_rd rfl rfl rfl (rd_nilCheck rfl) ?_
          refine gr_rd rfl rfl rfl (rd_fieldAddr Tryd.fa83_2 rfl) ?_
          refine gr_rd rfl rfl rfl (rd_load1 Tryd.to81 rfl (Cells.own (l := [.map (some bo), .map (some bw), .map (some bt)]) (T := 83) (z := (0, 0)) (by simp [baseL])) rfl) ?_
          refine gr_rd rfl rfl rfl (rd_loadA Tryd.ta34 rfl (Cells.own (l := encId (o.preds.getD k Nm.zero)) (T := 34) (z := (0, 0)) (by simp [baseL])) (Seg.all _) (encId_length _)) ?_
          refine gr_nx rfl rfl rfl (Rd.nx (rd_lookup Tryd.tmi Tryd.zint rfl rfl (ob := otk) (by (repeat (first | exact List.mem_cons_self | apply List.mem_cons_of_mem)); done) hMt)) ?_; rintro v33 H' L' hle ⟨rfl, rfl, rfl⟩; refine ⟨⟨(by first | exact Gh.le_refl _ | assumption | exact Gh.le_trans (by assumption) (by assumption)), (by repeat (first | exact List.Sublist.refl _ | exact List.nil_sublist _ | apply List.Sublist.cons_cons | apply List.Sublist.cons | apply List.Sublist.append (List.Sublist.refl _) | refine List.Sublist.trans ?_ (List.sublist_append_right _ _)))⟩, ?_⟩
          rw [hct]
          refine gr_rd rfl rfl rfl (rd_add rfl rfl (IntWalk.i64_in _ (by omega))) ?_
          refine gr_nx rfl rfl rfl (nx_mapEntry (F := fun o1 => (b8, .cells (encId (o.preds.getD k Nm.zero)).toArray 34 (0, 0)) :: ((b5, .cells (encOp o (.slice A o.preds.length cv)).toArray 38 (0, 0)) :: (b4, .cells (encId n).toArray 34 (0, 0)) :: ((b, .cells [.map (some bo), .map (some bw), .map (some bt)].toArray 83 (0, 0)) :: (bo, ob1) :: (bw, ow) :: (bt, o1) :: L))) Tryd.tmi Tryd.zint rfl rfl hMt (fun _ => (by repeat (first | exact Upd.here | exact Upd.appl (by assumption) | apply Upd.there | apply Upd.app)))) ?_; rintro v35 H' L' hle ⟨ot1, m1, born, rfl, rfl, hM1, hlk1, rfl⟩; refine ⟨⟨(by first | exact Gh.le_refl _ | assumption | exact Gh.le_trans (by assumption) (by assumption)), (by repeat (first | exact List.Sublist.refl _ | exact List.nil_sublist _ | apply List.Sublist.cons_cons | apply List.Sublist.cons | apply List.Sublist.append (List.Sublist.refl _) | refine List.Sublist.trans ?_ (List.sublist_append_right _ _)))⟩, ?_⟩
          refine gr_rd rfl rfl rfl (rd_extract rfl rfl) ?_
          refine gr_fin0 rfl rfl (nx_entryStore (F := fun o1 => (b8, .cells (encId (o.preds.getD k Nm.zero)).toArray 34 (0, 0)) :: ((b5, .cells (encOp o (.slice A o.preds.length cv)).toArray 38 (0, 0)) :: (b4, .cells (encId n).toArray 34 (0, 0)) :: ((b, .cells [.map (some bo), .map (some bw), .map (some bt)].toArray 83 (0, 0)) :: (bo, ob1) :: (bw, ow) :: (bt, o1) :: L))) rfl rfl rfl hM1 (fun _ => (by repeat (first | exact Upd.here | exact Upd.appl (by assumption) | apply Upd.there | apply Upd.app)))) ?_; rintro _ H' L' hle2 ⟨ot2, m2, rfl, rfl, hM2, hlk2, rfl⟩
          refine gr_nil ?_
          refine gk_inBlock ?_
          refine gk_then ?_
          refine gc_seqr [(.mv, 0), (.mv, 1)] rfl ?_
          (first | refine gr_rd rfl rfl rfl (rd_add rfl rfl (IntWalk.i64_in _ (by omega))) ?_ | refine gr_rd rfl rfl rfl (rd_add rfl rfl rfl) ?_)
          refine gr_rd rfl rfl rfl (rd_move rfl) ?_
          refine gr_nil ?_
          refine gk_drop (L' := ((b5, .cells (encOp o (.slice A o.preds.length cv)).toArray 38 (0, 0)) :: (b4, .cells (encId n).toArray 34 (0, 0)) :: ((b, .cells [.map (some bo), .map (some bw), .map (some bt)].toArray 83 (0, 0)) :: (bo, ob1) :: (bw, ow) :: (bt, ot2) :: L))) (List.sublist_cons_self _ _) ?_
          refine gk_round ⟨k + 1, ot2⟩ ?_ ⟨rfl, rfl, by simp only; omega, m2, hM2, fun n' => ?_⟩ (by repeat (first | exact Subs.nil | refine Subs.cons rfl ?_))
          · show o.preds.length - (k + 1) < o.preds.length - k
            omega
          · show _ = i64 ((cnt s.ops n' + (o.preds.take (k + 1)).countP (· == n') : Nat) : Int)
            rw [hlk2]
            by_cases e : (o.preds.getD k Nm.zero) = n'
            · rw [if_pos e, Option.getD_some, count_take _ hlt, if_pos e, ← e]
              congr 1 <;> omega
            · rw [if_neg e, hlk1, if_neg e, hct, count_take _ hlt, if_neg e]
              rfl
        · skip
          show GR _ _ _ _ _ _ [(.mv, 0), (.mv, 1), (.mv, 2), (.mv, 3), (.mv, 4), (.nm, 7), (.mv, 8), (.nm, 5), (.mv, 6), (.fin, 9)] _ _
          refine gr_rd rfl rfl rfl (rd_move rfl) ?_
          refine gr_rd rfl rfl rfl (rd_nilCheck rfl) ?_
          refine gr_rd rfl rfl rfl (rd_fieldAddr Tryd.fa83_2 rfl) ?_
          refine gr_rd rfl rfl rfl (rd_load1 Tryd.to81 rfl (Cells.own (l := [.map (some bo), .map (some bw), .map (some bt)]) (T := 83) (z := (0, 0)) (by simp [baseL])) rfl) ?_
          refine gr_rd rfl rfl rfl (rd_loadA Tryd.ta34 rfl (Cells.own (l := encId (o.preds.getD k Nm.zero)) (T := 34) (z := (0, 0)) (by simp [baseL])) (Seg.all _) (encId_length _)) ?_
          refine gr_nx rfl rfl rfl (nx_mapEntry (F := fun o1 => (b8, .cells (encId (o.preds.getD k Nm.zero)).toArray 34 (0, 0)) :: ((b5, .cells (encOp o (.slice A o.preds.length cv)).toArray 38 (0, 0)) :: (b4, .cells (encId n).toArray 34 (0, 0)) :: ((b, .cells [.map (some bo), .map (some bw), .map (some bt)].toArray 83 (0, 0)) :: (bo, ob1) :: (bw, ow) :: (bt, o1) :: L))) Tryd.tmi Tryd.zint rfl rfl hMt (fun _ => (by repeat (first | exact Upd.here | exact Upd.appl (by assumption) | apply Upd.there | apply Upd.app)))) ?_; rintro v35 H' L' hle ⟨ot1, m1, born, rfl, rfl, hM1, hlk1, rfl⟩; refine ⟨⟨(by first | exact Gh.le_refl _ | assumption | exact Gh.le_trans (by assumption) (by assumption)), (by repeat (first | exact List.Sublist.refl _ | exact List.nil_sublist _ | apply List.Sublist.cons_cons | apply List.Sublist.cons | apply List.Sublist.append (List.Sublist.refl _) | refine List.Sublist.trans ?_ (List.sublist_append_right _ _)))⟩, ?_⟩
          refine gr_rd rfl rfl rfl (rd_extract rfl rfl) ?_
          refine gr_nx rfl rfl rfl (Rd.nx (rd_lookup Tryd.tmi Tryd.zint rfl rfl (ob := ot1) (by (repeat (first | exact List.mem_cons_self | apply List.mem_cons_of_mem)); done) hM1.mapO)) ?_; rintro v33 H' L' hle ⟨rfl, rfl, rfl⟩; refine ⟨⟨(by first | exact Gh.le_refl _ | assumption | exact Gh.le_trans (by assumption) (by assumption)), (by repeat (first | exact List.Sublist.refl _ | exact List.nil_sublist _ | apply List.Sublist.cons_cons | apply List.Sublist.cons | apply List.Sublist.append (List.Sublist.refl _) | refine List.Sublist.trans ?_ (List.sublist_append_right _ _)))⟩, ?_⟩
          rw [hlk1, if_pos rfl, Option.getD_some, hct]
          refine gr_rd rfl rfl rfl (rd_add rfl rfl (IntWalk.i64_in _ (by omega))) ?_
          refine gr_fin0 rfl rfl (nx_entryStore (F := fun o1 => (b8, .cells (encId (o.preds.getD k Nm.zero)).toArray 34 (0, 0)) :: ((b5, .cells (encOp o (.slice A o.preds.length cv)).toArray 38 (0, 0)) :: (b4, .cells (encId n).toArray 34 (0, 0)) :: ((b, .cells [.map (some bo), .map (some bw), .map (some bt)].toArray 83 (0, 0)) :: (bo, ob1) :: (bw, ow) :: (bt, o1) :: L))) rfl rfl rfl hM1 (fun _ => (by repeat (first | exact Upd.here | exact Upd.appl (by assumption) | apply Upd.there | apply Upd.app)))) ?_; rintro _ H' L' hle2 ⟨ot2, m2, rfl, rfl, hM2, hlk2, rfl⟩
          refine gr_nil ?_
          refine gk_inBlock ?_
          refine gk_then ?_
          refine gc_seqr [(.mv, 0), (.mv, 1)] rfl ?_
          (first | refine gr_rd rfl rfl rfl (rd_add rfl rfl (IntWalk.i64_in _ (by omega))) ?_ | refine gr_rd rfl rfl rfl (rd_add rfl rfl rfl) ?_)
          refine gr_rd rfl rfl rfl (rd_move rfl) ?_
          refine gr_nil ?_
          refine gk_drop (L' := ((b5, .cells (encOp o (.slice A o.preds.length cv)).toArray 38 (0, 0)) :: (b4, .cells (encId n).toArray 34 (0, 0)) :: ((b, .cells [.map (some bo), .map (some bw), .map (some bt)].toArray 83 (0, 0)) :: (bo, ob1) :: (bw, ow) :: (bt, ot2) :: L))) (List.sublist_cons_self _ _) ?_
          refine gk_round ⟨k + 1, ot2⟩ ?_ ⟨rfl, rfl, by simp only; omega, m2, hM2, fun n' => ?_⟩ (by repeat (first | exact Subs.nil | refine Subs.cons rfl ?_))
          · show o.preds.length - (k + 1) < o.preds.length - k
            omega
          · show _ = i64 ((cnt s.ops n' + (o.preds.take (k + 1)).countP (· == n') : Nat) : Int)
            rw [hlk2]
            by_cases e : (o.preds.getD k Nm.zero) = n'
            · rw [if_pos e, Option.getD_some, count_take _ hlt, if_pos e, ← e]
              congr 1 <;> omega
            · rw [if_neg e, hlk1, if_neg e, hct, count_take _ hlt, if_neg e]
              rfl
      · have hge : k = o.preds.length := by simp at hc1; omega
        subst hge
        rw [List.take_length] at hct
        have hCn : CntO otk (cnt (s.ops ++ [(n, o)])) := ⟨mt, hMt, fun n' => by rw [cnt_append]; exact hct n'⟩
        refine gc_exit ?_
        refine gk_exit_then ?_
        refine gk_exit_then ?_
        refine gk_here ?_
        refine gk_then ?_
        refine gc_seq ?_
        refine gc_seqr [(.mv, 0)] rfl ?_
        refine gr_rd rfl rfl rfl (rd_assign rfl) ?_
        refine gr_nil ?_
        refine gk_then ?_
        refine gc_ret ?_
        refine gk_drop (L' := ((b, .cells [.map (some bo), .map (some bw), .map (some bt)].toArray 83 (0, 0)) :: (bo, ob1) :: (bw, ow) :: (bt, otk) :: L)) (by repeat (first | exact List.Sublist.refl _ | exact List.nil_sublist _ | apply List.Sublist.cons_cons | apply List.Sublist.cons | refine List.Sublist.trans ?_ (List.sublist_append_right _ _))) ?_
        refine gk_result (L' := ((b, .cells [.map (some bo), .map (some bw), .map (some bt)].toArray 83 (0, 0)) :: (bo, ob1) :: (bw, ow) :: (bt, otk) :: L)) (.inl rfl) _ (res1 rfl rfl) (List.Sublist.refl _) (Gh.le_refl _) ?_
        exact ⟨ob1, otk, by rw [decide_eq_true hd], fun _ => ⟨hE1, hCn⟩, fun h => absurd hd h, rfl, rfl⟩
end Go.Proofs.YtfhldfjknagidaaDoor
