/-
  Walks: the reference's set answers a draft.
-/
import Derived.Test.YtfhldfjknagidaaDoorVKs13
import Derived.Test.YtfhldfjknagidaaDoorVKn
set_option linter.unusedSimpArgs false
set_option linter.unusedVariables false
namespace Go.Proofs.YtfhldfjknagidaaDoor
open Go.VK Go.Tr
set_option maxRecDepth 20000
attribute [local irreducible] Go.Tr.sha

set_option maxHeartbeats 1000000 in
theorem rnext_cc (H : Gh) (L : Chunks) {b : Nat} {s : DSet} {v0 v1 v2 v3 : Value} {ov wv : List (POp × Value)} (hV : RView H L b s v0 v1 v2 v3 ov wv) (hb : s.ops.length < 16777216) (author : Int) (d : Draft) :
    CC Tryd.prog 27 #[pt b 0, i64 author, ag (encDraft d)] H L (fun v H' L' => ∃ C pv, v = .tuple #[ag (encOp (next s author d).1 pv), i64 (next s author d).2] ∧ Ow 34 32 C pv (next s author d).1.preds.length ((next s author d).1.preds.flatMap encId) ∧ H = H' ∧ C ++ L = L') := by
  have hhl := heads_le s
  refine cc_of Tryd.func27 rfl (Nat.le_of_ble_eq_true rfl) ?_
  simp only [Tryd.ntmps27]
  refine gc_seq ?_
  refine gc_seqr [(.nm, 0), (.nm, 1), (.mv, 2)] rfl ?_
  refine gr_nx rfl rfl rfl (nx_box rfl rfl) ?_; rintro _ _ _ _ ⟨b5, rfl, rfl, rfl⟩; refine ⟨trivial, ?_⟩
  refine gr_nx rfl rfl rfl (nx_alloc Tryd.zeroValue38 rfl) ?_; rintro _ _ _ _ ⟨b6, rfl, rfl, rfl⟩; refine ⟨trivial, ?_⟩
  refine gr_rd rfl rfl rfl (rd_assign rfl) ?_
  refine gr_nil ?_
  refine gk_then ?_
  refine gc_seq ?_
  refine gc_seq ?_
  refine gc_seqr [(.mv, 0), (.nm, 1), (.mv, 2), (.mv, 3), (.mv, 4), (.mv, 5), (.mv, 6), (.mv, 7), (.mv, 8), (.mv, 9), (.mv, 10)] rfl ?_
  refine gr_rd rfl rfl rfl (rd_loadA Tryd.ta36 rfl (by first | (apply Cells.own; (repeat (first | exact List.mem_cons_self | apply List.mem_cons_of_mem)); done) | (exact Cells.own (by simp))) (by first | exact Seg.all _ | exact Seg.head | assumption) (by first | exact encId_length _ | exact encOp_length _ _ | exact encDraft_length _ | rfl | simp)) ?_
  refine gr_nx rfl rfl rfl (nx_call Tryd.en62 rfl (rgoodDraft_cc _ _ d)) ?_; rintro v10 H' L' hle ⟨rfl, rfl, rfl⟩; refine ⟨trivial, ?_⟩
  refine gr_rd rfl rfl rfl (rd_not rfl) ?_
  refine gr_rd rfl rfl rfl (rd_move rfl) ?_
  refine gr_split rfl (fun hg3 => ?_) (fun hg3 => ?_)
  · skip
    refine gr_no rfl rfl rfl ?_
    refine gr_no rfl rfl rfl ?_
    (first | refine gr_rd rfl rfl rfl (rd_pick_t rfl rfl) ?_ | refine gr_rd rfl rfl rfl (rd_pick_f rfl rfl) ?_)
    refine gr_rd rfl rfl rfl (rd_move rfl) ?_
    refine gr_no rfl rfl rfl ?_
    refine gr_no rfl rfl rfl ?_
    (first | refine gr_rd rfl rfl rfl (rd_pick_t rfl rfl) ?_ | refine gr_rd rfl rfl rfl (rd_pick_f rfl rfl) ?_)
    refine gr_nil ?_
    refine gk_then ?_
    refine gc_yes rfl ?_
    have hn : next s author d = (zeroOp, 1) := by
      rw [next, if_pos]
      first | (simp [hg3]; done) | (simp [hg7]; done) | (simp only [Bool.or_eq_true]; exact .inr hc0)
    refine gc_seq ?_
    refine gc_seqr [(.mv, 0), (.nm, 1), (.mv, 2)] rfl ?_
    refine gr_rd rfl rfl rfl (rd_build Tryd.bt38 (ps := []) (l := encOp zeroOp nilS) rfl rfl) ?_
    refine gr_nx0 rfl rfl (nx_store (vs := encOp zeroOp nilS) Tryd.sizeOf38 rfl rfl rfl (encOp_length _ _) (by repeat (first | exact Upd.here | exact Upd.appl (by assumption) | apply Upd.there | apply Upd.app)) (by simp) (encOp_ones _ rfl)) ?_; rintro _ _ _ _ ⟨rfl, rfl, rfl⟩; refine ⟨trivial, ?_⟩
    rw [wr_all (by simp)]
    refine gr_rd rfl rfl rfl (rd_assign rfl) ?_
    refine gr_nil ?_
    refine gk_then ?_
    refine gc_ret ?_
    refine gk_ret_then ?_
    refine gk_result (L' := [] ++ L) (.inl rfl) _ (resC2 rfl rfl Tryd.ta38 (Cells.own (l := encOp zeroOp nilS) (T := 38) (z := (0, 0)) (by simp)) (Seg.all _) (encOp_length _ _) rfl) (by repeat (first | exact List.Sublist.refl _ | apply List.Sublist.cons_cons | apply List.Sublist.cons | apply List.Sublist.append (List.Sublist.refl _) | refine List.Sublist.trans ?_ (List.sublist_append_right _ _))) (Gh.le_refl _) ?_
    exact ⟨[], nilS, by rw [hn], by rw [hn]; exact Ow.nil, rfl, rfl⟩
  · skip
    refine gr_rd rfl rfl rfl (rd_move rfl) ?_
    refine gr_rd rfl rfl rfl (rd_lss rfl rfl) ?_
    (first | refine gr_rd rfl rfl rfl (rd_pick_t rfl rfl) ?_ | refine gr_rd rfl rfl rfl (rd_pick_f rfl rfl) ?_)
    refine gr_rd rfl rfl rfl (rd_move rfl) ?_
    refine gr_split rfl (fun hg7 => ?_) (fun hg7 => ?_)
    · skip
      refine gr_no rfl rfl rfl ?_
      refine gr_no rfl rfl rfl ?_
      (first | refine gr_rd rfl rfl rfl (rd_pick_t rfl rfl) ?_ | refine gr_rd rfl rfl rfl (rd_pick_f rfl rfl) ?_)
      refine gr_nil ?_
      refine gk_then ?_
      refine gc_yes rfl ?_
      have hn : next s author d = (zeroOp, 1) := by
        rw [next, if_pos]
        first | (simp [hg3]; done) | (simp [hg7]; done) | (simp only [Bool.or_eq_true]; exact .inr hc0)
      refine gc_seq ?_
      refine gc_seqr [(.mv, 0), (.nm, 1), (.mv, 2)] rfl ?_
      refine gr_rd rfl rfl rfl (rd_build Tryd.bt38 (ps := []) (l := encOp zeroOp nilS) rfl rfl) ?_
      refine gr_nx0 rfl rfl (nx_store (vs := encOp zeroOp nilS) Tryd.sizeOf38 rfl rfl rfl (encOp_length _ _) (by repeat (first | exact Upd.here | exact Upd.appl (by assumption) | apply Upd.there | apply Upd.app)) (by simp) (encOp_ones _ rfl)) ?_; rintro _ _ _ _ ⟨rfl, rfl, rfl⟩; refine ⟨trivial, ?_⟩
      rw [wr_all (by simp)]
      refine gr_rd rfl rfl rfl (rd_assign rfl) ?_
      refine gr_nil ?_
      refine gk_then ?_
      refine gc_ret ?_
      refine gk_ret_then ?_
      refine gk_result (L' := [] ++ L) (.inl rfl) _ (resC2 rfl rfl Tryd.ta38 (Cells.own (l := encOp zeroOp nilS) (T := 38) (z := (0, 0)) (by simp)) (Seg.all _) (encOp_length _ _) rfl) (by repeat (first | exact List.Sublist.refl _ | apply List.Sublist.cons_cons | apply List.Sublist.cons | apply List.Sublist.append (List.Sublist.refl _) | refine List.Sublist.trans ?_ (List.sublist_append_right _ _))) (Gh.le_refl _) ?_
      exact ⟨[], nilS, by rw [hn], by rw [hn]; exact Ow.nil, rfl, rfl⟩
    · skip
      refine gr_rd rfl rfl rfl (rd_move rfl) ?_
      refine gr_rd rfl rfl rfl (rd_gtr rfl rfl) ?_
      (first | refine gr_rd rfl rfl rfl (rd_pick_t rfl rfl) ?_ | refine gr_rd rfl rfl rfl (rd_pick_f rfl rfl) ?_)
      refine gr_nil ?_
      refine gk_then ?_
      refine gc_cond rfl (fun hc0 => ?_) (fun hc0 => ?_)
      · have hn : next s author d = (zeroOp, 1) := by
          rw [next, if_pos]
          first | (simp [hg3]; done) | (simp [hg7]; done) | (simp only [Bool.or_eq_true]; exact .inr hc0)
        refine gc_seq ?_
        refine gc_seqr [(.mv, 0), (.nm, 1), (.mv, 2)] rfl ?_
        refine gr_rd rfl rfl rfl (rd_build Tryd.bt38 (ps := []) (l := encOp zeroOp nilS) rfl rfl) ?_
        refine gr_nx0 rfl rfl (nx_store (vs := encOp zeroOp nilS) Tryd.sizeOf38 rfl rfl rfl (encOp_length _ _) (by repeat (first | exact Upd.here | exact Upd.appl (by assumption) | apply Upd.there | apply Upd.app)) (by simp) (encOp_ones _ rfl)) ?_; rintro _ _ _ _ ⟨rfl, rfl, rfl⟩; refine ⟨trivial, ?_⟩
        rw [wr_all (by simp)]
        refine gr_rd rfl rfl rfl (rd_assign rfl) ?_
        refine gr_nil ?_
        refine gk_then ?_
        refine gc_ret ?_
        refine gk_ret_then ?_
        refine gk_result (L' := [] ++ L) (.inl rfl) _ (resC2 rfl rfl Tryd.ta38 (Cells.own (l := encOp zeroOp nilS) (T := 38) (z := (0, 0)) (by simp)) (Seg.all _) (encOp_length _ _) rfl) (by repeat (first | exact List.Sublist.refl _ | apply List.Sublist.cons_cons | apply List.Sublist.cons | apply List.Sublist.append (List.Sublist.refl _) | refine List.Sublist.trans ?_ (List.sublist_append_right _ _))) (Gh.le_refl _) ?_
        exact ⟨[], nilS, by rw [hn], by rw [hn]; exact Ow.nil, rfl, rfl⟩
      · have hok : ¬ ((!goodDraft d || author < 0 || 4 < author) = true) := by
          simp only [Bool.or_eq_true, not_or, Bool.not_eq_true]; exact ⟨⟨hg3, hg7⟩, hc0⟩
        refine gc_skip ?_
        refine gk_then ?_
        refine gc_cut (fun q : Nat × Chunks × Option Addr × Nat => [(0, pt b 0), (5, pt b5 0), (6, pt b6 0), (8, pt q.1 0)]) (fun q H1 L1 => H = H1 ∧ (q.1, .cells (encOp ⟨d, author, 0, heads s⟩ (.slice q.2.2.1 (heads s).length q.2.2.2)).toArray 38 (0, 0)) :: (q.2.1 ++ ((b6, .cells (encOp zeroOp nilS).toArray 38 (0, 0)) :: (b5, .cells (encDraft d).toArray 36 (0, 0)) :: L)) = L1 ∧ Ow 34 32 q.2.1 (.slice q.2.2.1 (heads s).length q.2.2.2) (heads s).length ((heads s).flatMap encId)) ?_ ?_
        · skip
          refine gc_draw3 Tryd.mixed [(.mv, 0), (.mv, 1), (.mv, 2)] 3 5 [(.mv, 4), (.fin, 6)] [(.mv, 4), (.nm, 5), (.fin, 6)] [(.nm, 3), (.mv, 4), (.fin, 6)] (by decide +kernel) _ (List.Sublist.refl _) ?_ ?_
          · skip
            show GR _ _ _ _ _ _ [(.mv, 0), (.mv, 1), (.mv, 2), (.nm, 3), (.mv, 4), (.nm, 5), (.fin, 6)] _ _
            refine gr_rd rfl rfl rfl (rd_loadA Tryd.ta36 rfl (by first | (apply Cells.own; (repeat (first | exact List.mem_cons_self | apply List.mem_cons_of_mem)); done) | (exact Cells.own (by simp))) (by first | exact Seg.all _ | exact Seg.head | assumption) (by first | exact encId_length _ | exact encOp_length _ _ | exact encDraft_length _ | rfl | simp)) ?_
            refine gr_rd rfl rfl rfl (rd_move rfl) ?_
            refine gr_rd rfl rfl rfl (rd_move rfl) ?_
            refine gr_nx rfl rfl rfl (nx_call Tryd.en59 rfl (rheads_cc _ _ (hV.mono (Gh.le_refl _) (fun x hx => by simp [hx])) hb)) ?_; rintro v24 H' L' hle ⟨C, hC, rfl, rfl⟩; refine ⟨⟨(by first | exact Gh.le_refl _ | assumption | exact Gh.le_trans (by assumption) (by assumption)), (by repeat (first | exact List.Sublist.refl _ | exact List.nil_sublist _ | apply List.Sublist.cons_cons | apply List.Sublist.cons | apply List.Sublist.append (List.Sublist.refl _) | refine List.Sublist.trans ?_ (List.sublist_append_right _ _)))⟩, ?_⟩
            obtain ⟨ah, ch, rfl, hch⟩ := hC.slice
            refine gr_rd rfl rfl rfl (rd_build Tryd.bt38 (ps := [(0, ag (encDraft d)), (1, i64 author), (3, .slice ah (heads s).length ch)]) rfl (fill_op3 (ps := heads s) rfl)) ?_
            refine gr_nx rfl rfl rfl (nx_alloc Tryd.zeroValue38 rfl) ?_; rintro _ _ _ _ ⟨b8, rfl, rfl, rfl⟩; refine ⟨⟨(by first | exact Gh.le_refl _ | assumption | exact Gh.le_trans (by assumption) (by assumption)), (by repeat (first | exact List.Sublist.refl _ | exact List.nil_sublist _ | apply List.Sublist.cons_cons | apply List.Sublist.cons | apply List.Sublist.append (List.Sublist.refl _) | refine List.Sublist.trans ?_ (List.sublist_append_right _ _)))⟩, ?_⟩
            refine gr_fin0 rfl rfl (nx_store (vs := encOp ⟨d, author, 0, heads s⟩ (.slice ah (heads s).length ch)) Tryd.sizeOf38 rfl rfl rfl (encOp_length _ _) (by repeat (first | exact Upd.here | exact Upd.appl (by assumption) | apply Upd.there | apply Upd.app)) (by simp) (encOp_ones _ rfl)) ?_; rintro _ _ _ _ ⟨rfl, rfl, rfl⟩
            rw [wr_all (by simp)]
            refine gr_nil ?_
            first | exact gk_cut (b8, C, ah, ch) ⟨rfl, rfl, hC⟩ (by repeat (first | exact Subs.nil | refine Subs.cons rfl ?_)) | exact gk_perm List.perm_middle (gk_cut (b8, C, ah, ch) ⟨rfl, rfl, hC⟩ (by repeat (first | exact Subs.nil | refine Subs.cons rfl ?_)))
          · skip
            show GR _ _ _ _ _ _ [(.mv, 0), (.mv, 1), (.mv, 2), (.nm, 5), (.nm, 3), (.mv, 4), (.fin, 6)] _ _
            refine gr_rd rfl rfl rfl (rd_loadA Tryd.ta36 rfl (by first | (apply Cells.own; (repeat (first | exact List.mem_cons_self | apply List.mem_cons_of_mem)); done) | (exact Cells.own (by simp))) (by first | exact Seg.all _ | exact Seg.head | assumption) (by first | exact encId_length _ | exact encOp_length _ _ | exact encDraft_length _ | rfl | simp)) ?_
            refine gr_rd rfl rfl rfl (rd_move rfl) ?_
            refine gr_rd rfl rfl rfl (rd_move rfl) ?_
            refine gr_nx rfl rfl rfl (nx_alloc Tryd.zeroValue38 rfl) ?_; rintro _ _ _ _ ⟨b8, rfl, rfl, rfl⟩; refine ⟨⟨(by first | exact Gh.le_refl _ | assumption | exact Gh.le_trans (by assumption) (by assumption)), (by repeat (first | exact List.Sublist.refl _ | exact List.nil_sublist _ | apply List.Sublist.cons_cons | apply List.Sublist.cons | apply List.Sublist.append (List.Sublist.refl _) | refine List.Sublist.trans ?_ (List.sublist_append_right _ _)))⟩, ?_⟩
            refine gr_nx rfl rfl rfl (nx_call Tryd.en59 rfl (rheads_cc _ _ (hV.mono (Gh.le_refl _) (fun x hx => by simp [hx])) hb)) ?_; rintro v24 H' L' hle ⟨C, hC, rfl, rfl⟩; refine ⟨⟨(by first | exact Gh.le_refl _ | assumption | exact Gh.le_trans (by assumption) (by assumption)), (by repeat (first | exact List.Sublist.refl _ | exact List.nil_sublist _ | apply List.Sublist.cons_cons | apply List.Sublist.cons | apply List.Sublist.append (List.Sublist.refl _) | refine List.Sublist.trans ?_ (List.sublist_append_right _ _)))⟩, ?_⟩
            obtain ⟨ah, ch, rfl, hch⟩ := hC.slice
            refine gr_rd rfl rfl rfl (rd_build Tryd.bt38 (ps := [(0, ag (encDraft d)), (1, i64 author), (3, .slice ah (heads s).length ch)]) rfl (fill_op3 (ps := heads s) rfl)) ?_
            refine gr_fin0 rfl rfl (nx_store (vs := encOp ⟨d, author, 0, heads s⟩ (.slice ah (heads s).length ch)) Tryd.sizeOf38 rfl rfl rfl (encOp_length _ _) (by repeat (first | exact Upd.here | exact Upd.appl (by assumption) | apply Upd.there | apply Upd.app)) (by simp) (encOp_ones _ rfl)) ?_; rintro _ _ _ _ ⟨rfl, rfl, rfl⟩
            rw [wr_all (by simp)]
            refine gr_nil ?_
            first | exact gk_cut (b8, C, ah, ch) ⟨rfl, rfl, hC⟩ (by repeat (first | exact Subs.nil | refine Subs.cons rfl ?_)) | exact gk_perm List.perm_middle (gk_cut (b8, C, ah, ch) ⟨rfl, rfl, hC⟩ (by repeat (first | exact Subs.nil | refine Subs.cons rfl ?_)))
        · rintro ⟨b8, C, ah, ch⟩ H1 L1 ⟨rfl, rfl, hC⟩
          show GC _ _ _ _ [(0, pt b 0), (5, pt b5 0), (6, pt b6 0), (8, pt b8 0)] H ((b8, .cells (encOp ⟨d, author, 0, heads s⟩ (.slice ah (heads s).length ch)).toArray 38 (0, 0)) :: (C ++ ((b6, .cells (encOp zeroOp nilS).toArray 38 (0, 0)) :: (b5, .cells (encDraft d).toArray 36 (0, 0)) :: L)))
          refine gc_seq ?_
          refine gc_seq ?_
          refine gc_seqr [(.mv, 0), (.mv, 1), (.mv, 2), (.mv, 3)] rfl ?_
          refine gr_rd rfl rfl rfl (rd_fieldAddr Tryd.fa38_3 rfl) ?_
          refine gr_rd rfl rfl rfl (rd_load1 Tryd.to29 rfl (by first | (apply Cells.own; (repeat (first | exact List.mem_cons_self | apply List.mem_cons_of_mem)); done) | (exact Cells.own (by simp))) (by first | rfl | assumption | exact encOp_37 _ _ | exact encOp_36 _ _ | exact encOp_35 _ _ | exact encOp_0 _ _ | exact encOp_1 _ _ | exact encOp_2 _ _ | exact encDraft_0 _ | exact encDraft_1 _ | exact encDraft_2 _ | simp)) ?_
          refine gr_rd rfl rfl rfl (rd_lenS Tryd.underlying29 rfl) ?_
          refine gr_rd rfl rfl rfl (rd_gtr rfl rfl) ?_
          refine gr_nil ?_
          refine gk_then ?_
          refine gc_cond rfl (fun hc1 => ?_) (fun hc1 => ?_)
          · have hn : next s author d = (zeroOp, 3) := by
              have h32 := of_decide_eq_true hc1
              rw [next, if_neg hok, if_pos (by omega)]
            refine gc_seq ?_
            refine gc_seqr [(.mv, 0), (.nm, 1), (.mv, 2)] rfl ?_
            refine gr_rd rfl rfl rfl (rd_build Tryd.bt38 (ps := []) (l := encOp zeroOp nilS) rfl rfl) ?_
            refine gr_nx0 rfl rfl (nx_store (vs := encOp zeroOp nilS) Tryd.sizeOf38 rfl rfl rfl (encOp_length _ _) (by repeat (first | exact Upd.here | exact Upd.appl (by assumption) | apply Upd.there | apply Upd.app)) (by simp) (encOp_ones _ rfl)) ?_; rintro _ _ _ _ ⟨rfl, rfl, rfl⟩; refine ⟨trivial, ?_⟩
            rw [wr_all (by simp)]
            refine gr_rd rfl rfl rfl (rd_assign rfl) ?_
            refine gr_nil ?_
            refine gk_then ?_
            refine gc_ret ?_
            refine gk_ret_then ?_
            refine gk_result (L' := [] ++ L) (.inl rfl) _ (resC2 rfl rfl Tryd.ta38 (Cells.own (l := encOp zeroOp nilS) (T := 38) (z := (0, 0)) (by simp)) (Seg.all _) (encOp_length _ _) rfl) (by repeat (first | exact List.Sublist.refl _ | apply List.Sublist.cons_cons | apply List.Sublist.cons | apply List.Sublist.append (List.Sublist.refl _) | refine List.Sublist.trans ?_ (List.sublist_append_right _ _))) (Gh.le_refl _) ?_
            exact ⟨[], nilS, by rw [hn], by rw [hn]; exact Ow.nil, rfl, rfl⟩
          · have hn : next s author d = (⟨d, author, depthOf s (heads s), heads s⟩, 0) := by
              have h32 := of_decide_eq_false hc1
              rw [next, if_neg hok, if_neg (by omega)]
            refine gc_skip ?_
            refine gk_then ?_
            refine gc_seq ?_
            refine gc_seqr [(.mv, 0), (.mv, 1), (.nm, 2), (.mv, 3), (.nm, 4)] rfl ?_
            refine gr_rd rfl rfl rfl (rd_move rfl) ?_
            refine gr_rd rfl rfl rfl (rd_loadA Tryd.ta38 rfl (by first | (apply Cells.own; (repeat (first | exact List.mem_cons_self | apply List.mem_cons_of_mem)); done) | (exact Cells.own (by simp))) (by first | exact Seg.all _ | exact Seg.head | assumption) (by first | exact encId_length _ | exact encOp_length _ _ | exact encDraft_length _ | rfl | simp)) ?_
            refine gr_nx rfl rfl rfl (nx_call Tryd.en56 rfl (rdepth_cc _ _ (hV.mono (Gh.le_refl _) (fun x hx => by simp [hx])) ⟨d, author, 0, heads s⟩ _ (Ow.slT encId_length hC rfl (by omega) (fun x hx => by simp [hx])) heads_has)) ?_; rintro v33 H' L' hle ⟨rfl, rfl, rfl⟩; refine ⟨trivial, ?_⟩
            refine gr_rd rfl rfl rfl (rd_fieldAddr Tryd.fa38_2 rfl) ?_
            refine gr_nx0 rfl rfl (nx_store (vs := [i64 (depthOf s (heads s))]) Tryd.sizeOf3 rfl rfl rfl (rfl) (by repeat (first | exact Upd.here | exact Upd.appl (by assumption) | apply Upd.there | apply Upd.app)) (by simp) (oneCells_of_all rfl)) ?_; rintro _ _ _ _ ⟨rfl, rfl, rfl⟩; refine ⟨trivial, ?_⟩
            rw [encOp_set_depth]
            refine gr_nil ?_
            refine gk_then ?_
            refine gc_seq ?_
            refine gc_seqr [(.mv, 0), (.nm, 1), (.mv, 2)] rfl ?_
            refine gr_rd rfl rfl rfl (rd_loadA Tryd.ta38 rfl (by first | (apply Cells.own; (repeat (first | exact List.mem_cons_self | apply List.mem_cons_of_mem)); done) | (exact Cells.own (by simp))) (by first | exact Seg.all _ | exact Seg.head | assumption) (by first | exact encId_length _ | exact encOp_length _ _ | exact encDraft_length _ | rfl | simp)) ?_
            refine gr_nx0 rfl rfl (nx_store (vs := encOp ⟨d, author, depthOf s (heads s), heads s⟩ (.slice ah (heads s).length ch)) Tryd.sizeOf38 rfl rfl rfl (encOp_length _ _) (by repeat (first | exact Upd.here | exact Upd.appl (by assumption) | apply Upd.there | apply Upd.app)) (by simp) (encOp_ones _ rfl)) ?_; rintro _ _ _ _ ⟨rfl, rfl, rfl⟩; refine ⟨trivial, ?_⟩
            rw [wr_all (by simp)]
            refine gr_rd rfl rfl rfl (rd_assign rfl) ?_
            refine gr_nil ?_
            refine gk_then ?_
            refine gc_ret ?_
            refine gk_result (L' := C ++ L) (.inl rfl) _ (resC2 rfl rfl Tryd.ta38 (Cells.own (l := encOp ⟨d, author, depthOf s (heads s), heads s⟩ (.slice ah (heads s).length ch)) (T := 38) (z := (0, 0)) (by simp)) (Seg.all _) (encOp_length _ _) rfl) (by repeat (first | exact List.Sublist.refl _ | apply List.Sublist.cons_cons | apply List.Sublist.cons | apply List.Sublist.append (List.Sublist.refl _) | refine List.Sublist.trans ?_ (List.sublist_append_right _ _))) (Gh.le_refl _) ?_
            exact ⟨C, .slice ah (heads s).length ch, by rw [hn], by rw [hn]; exact hC, rfl, rfl⟩
end Go.Proofs.YtfhldfjknagidaaDoor
