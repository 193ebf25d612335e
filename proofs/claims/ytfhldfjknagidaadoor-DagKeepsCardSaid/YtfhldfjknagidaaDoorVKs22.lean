/-
  Walks: what the document tells of two operations.
-/
import Derived.Test.YtfhldfjknagidaaDoorVKs21
import Derived.Test.YtfhldfjknagidaaDoorVKv
set_option linter.unusedSimpArgs false
set_option linter.unusedVariables false
set_option linter.unnecessarySimpa false
set_option linter.all false
namespace Go.Proofs.YtfhldfjknagidaaDoor
open Go.VK Go.Tr
set_option maxRecDepth 20000
attribute [local irreducible] Go.Tr.sha
theorem small_of_good {o : POp} (h1 : goodDraft o.draft = true) (h2 : o.author < 9223372036854775808) (h3 : o.depth < 9223372036854775808) (h4 : o.preds.length < 16777216) : SmallO o := by
  simp only [goodDraft, Bool.and_eq_true, decide_eq_true_eq] at h1
  exact ⟨⟨by omega, by omega, by omega⟩, h2, h3, h4⟩
theorem small_one : SmallO opOne := small_of_good goodA (by decide) (by decide) (by decide)
theorem small_two : SmallO opTwo := small_of_good goodB (by decide) (by decide) (by simp [opTwo])

set_option maxHeartbeats 2000000 in
theorem alive_cc (H : Gh) (hG : Glob H) (L : Chunks) :
    CC Tryd.prog 10 #[] H L (fun v H' L' => v = .bool true ∧ L = L') := by
  have hLE := Gh.le_refl H
  refine cc_of Tryd.func10 rfl (Nat.le_of_ble_eq_true rfl) ?_
  simp only [Tryd.ntmps10]
  refine gc_seq ?_
  refine gc_seqr [(.mv, 0)] rfl ?_
  refine gr_rd rfl rfl rfl (rd_assign rfl) ?_
  refine gr_nil ?_
  refine gk_then ?_
  refine gc_seq ?_
  refine gc_seqr [(.nm, 0), (.nm, 1), (.mv, 2), (.mv, 3)] rfl ?_
  refine gr_nx rfl rfl rfl (nx_call Tryd.en12 rfl (new_cc _ _)) ?_; rintro v11 H' L' hle ⟨b1, bo1, bw1, bt1, ob1, ow1, ot1, rfl, hR1, rfl, rfl⟩; refine ⟨trivial, ?_⟩
  refine gr_nx rfl rfl rfl (nx_call Tryd.en12 rfl (new_cc _ _)) ?_; rintro v12 H' L' hle ⟨b2, bo2, bw2, bt2, ob2, ow2, ot2, rfl, hR2, rfl, rfl⟩; refine ⟨trivial, ?_⟩
  refine gr_rd rfl rfl rfl (rd_assign rfl) ?_
  refine gr_rd rfl rfl rfl (rd_assign rfl) ?_
  refine gr_nil ?_
  refine gk_then ?_
  refine gc_seq ?_
  refine gc_seqr [(.mv, 0), (.mv, 1), (.nm, 2), (.mv, 3), (.mv, 4), (.mv, 5), (.nm, 6), (.nm, 7), (.mv, 8)] rfl ?_
  refine gr_rd rfl rfl rfl (rd_move rfl) ?_
  refine gr_rd rfl rfl rfl (rd_build Tryd.bt36 (ps := [(0, i64 1), (1, str keyK)]) (l := encDraft drA) rfl rfl) ?_
  refine gr_perm (L' := ((b1, .cells [.map (some bo1), .map (some bw1), .map (some bt1)].toArray 83 (0, 0)) :: (bo1, ob1) :: (bw1, ow1) :: (bt1, ot1) :: ((b2, .cells [.map (some bo2), .map (some bw2), .map (some bt2)].toArray 83 (0, 0)) :: (bo2, ob2) :: (bw2, ow2) :: (bt2, ot2) :: L))) (by haveI : DecidableEq (Nat × Obj) := fun _ _ => Classical.propDecidable _; rw [List.perm_iff_count]; intro a; simp only [List.count_append, List.count_cons, List.count_nil]; ac_rfl) ?_
  refine gr_nx rfl rfl rfl (nx_call Tryd.en26 rfl (next_cc _ _ hR1 (by decide) 1 drA)) ?_; rintro v16 H' L' hle ⟨C1, pv1, rfl, hO1, rfl, rfl⟩; refine ⟨trivial, ?_⟩
  rw [alive_1] at hO1 ⊢
  refine gr_sealOw encId_length hO1 rfl (by first | decide | simp [opOne, opTwo]) (fun HH hle hs1 => ?_)
  have hLE := Gh.le_trans hLE hle
  replace hG := hG.mono hle
  replace hR1 := hR1.up hle
  replace hR2 := hR2.up hle
  refine gr_rd rfl rfl rfl (rd_move rfl) ?_
  refine gr_rd rfl rfl rfl (rd_extract rfl rfl) ?_
  refine gr_rd rfl rfl rfl (rd_extract rfl rfl) ?_
  refine gr_nx rfl rfl rfl (nx_alloc Tryd.zeroValue38 rfl) ?_; rintro _ _ _ _ ⟨b3, rfl, rfl, rfl⟩; refine ⟨trivial, ?_⟩
  refine gr_nx0 rfl rfl (nx_store (vs := encOp opOne pv1) Tryd.sizeOf38 rfl rfl rfl (encOp_length _ _) (by repeat (first | exact Upd.here | exact Upd.appl (by assumption) | apply Upd.there | apply Upd.app)) (by simp) (encOp_ones _ hs1.one)) ?_; rintro _ _ _ _ ⟨rfl, rfl, rfl⟩; refine ⟨trivial, ?_⟩
  rw [wr_all (by simp)]
  refine gr_rd rfl rfl rfl (rd_assign rfl) ?_
  refine gr_nil ?_
  refine gk_then ?_
  refine gc_seq ?_
  refine gc_seq ?_
  refine gc_seqr [(.mv, 0), (.mv, 1)] rfl ?_
  refine gr_rd rfl rfl rfl (rd_move rfl) ?_
  refine gr_rd rfl rfl rfl (rd_neq rfl rfl) ?_
  refine gr_nil ?_
  refine gk_then ?_
  refine gc_no rfl ?_
  refine gc_skip ?_
  refine gk_then ?_
  refine gc_seq ?_
  refine gc_seqr [(.mv, 0), (.mv, 1), (.nm, 2)] rfl ?_
  refine gr_rd rfl rfl rfl (rd_move rfl) ?_
  refine gr_rd rfl rfl rfl (rd_loadA Tryd.ta38 rfl (Cells.own (l := encOp opOne pv1) (T := 38) (z := (0, 0)) (by simp [baseL])) (Seg.all _) (encOp_length _ _)) ?_
  refine gr_perm (L' := ((b1, .cells [.map (some bo1), .map (some bw1), .map (some bt1)].toArray 83 (0, 0)) :: (bo1, ob1) :: (bw1, ow1) :: (bt1, ot1) :: ((b3, .cells (encOp opOne pv1).toArray 38 (0, 0)) :: ((b2, .cells [.map (some bo2), .map (some bw2), .map (some bt2)].toArray 83 (0, 0)) :: (bo2, ob2) :: (bw2, ow2) :: (bt2, ot2) :: L)))) (by haveI : DecidableEq (Nat × Obj) := fun _ _ => Classical.propDecidable _; rw [List.perm_iff_count]; intro a; simp only [List.count_append, List.count_cons, List.count_nil]; ac_rfl) ?_
  refine gr_nx rfl rfl rfl (nx_call Tryd.en13 rfl (take_cc _ hG _ hR1 (by decide) opOne pv1 (hs1.any) small_one)) ?_; rintro v23 H' L' hle ⟨ob3, ow3, ot3, C2, vo2, hR3, hO2, rfl, rfl⟩; refine ⟨trivial, ?_⟩
  rw [alive_2] at hR3 hO2
  have hLE := Gh.le_trans hLE hle
  replace hG := hG.mono hle
  replace hR2 := hR2.up hle
  replace hs1 := hs1.up hle
  refine gr_drop (L' := ((b1, .cells [.map (some bo1), .map (some bw1), .map (some bt1)].toArray 83 (0, 0)) :: (bo1, ob3) :: (bw1, ow3) :: (bt1, ot3) :: ((b3, .cells (encOp opOne pv1).toArray 38 (0, 0)) :: ((b2, .cells [.map (some bo2), .map (some bw2), .map (some bt2)].toArray 83 (0, 0)) :: (bo2, ob2) :: (bw2, ow2) :: (bt2, ot2) :: L)))) (List.sublist_append_right _ _) ?_
  refine gr_nil ?_
  refine gk_then ?_
  refine gc_seq ?_
  refine gc_seqr [(.mv, 0), (.mv, 1), (.nm, 2), (.mv, 3), (.mv, 4), (.mv, 5), (.nm, 6), (.nm, 7), (.mv, 8)] rfl ?_
  refine gr_rd rfl rfl rfl (rd_move rfl) ?_
  refine gr_rd rfl rfl rfl (rd_build Tryd.bt36 (ps := [(0, i64 3), (1, str keyK)]) (l := encDraft drB) rfl rfl) ?_
  refine gr_nx rfl rfl rfl (nx_call Tryd.en26 rfl (next_cc _ _ hR3 (by decide) 2 drB)) ?_; rintro v27 H' L' hle ⟨C3, pv2, rfl, hO3, rfl, rfl⟩; refine ⟨trivial, ?_⟩
  rw [alive_3] at hO3 ⊢
  refine gr_sealOw encId_length hO3 rfl (by first | decide | simp [opOne, opTwo]) (fun HH hle hs2 => ?_)
  have hLE := Gh.le_trans hLE hle
  replace hG := hG.mono hle
  replace hR2 := hR2.up hle
  replace hR3 := hR3.up hle
  replace hs1 := hs1.up hle
  refine gr_rd rfl rfl rfl (rd_move rfl) ?_
  refine gr_rd rfl rfl rfl (rd_extract rfl rfl) ?_
  refine gr_rd rfl rfl rfl (rd_extract rfl rfl) ?_
  refine gr_nx rfl rfl rfl (nx_alloc Tryd.zeroValue38 rfl) ?_; rintro _ _ _ _ ⟨b5, rfl, rfl, rfl⟩; refine ⟨trivial, ?_⟩
  refine gr_nx0 rfl rfl (nx_store (vs := encOp opTwo pv2) Tryd.sizeOf38 rfl rfl rfl (encOp_length _ _) (by repeat (first | exact Upd.here | exact Upd.appl (by assumption) | apply Upd.there | apply Upd.app)) (by simp) (encOp_ones _ hs2.one)) ?_; rintro _ _ _ _ ⟨rfl, rfl, rfl⟩; refine ⟨trivial, ?_⟩
  rw [wr_all (by simp)]
  refine gr_rd rfl rfl rfl (rd_assign rfl) ?_
  refine gr_nil ?_
  refine gk_then ?_
  refine gc_seq ?_
  refine gc_seqr [(.mv, 0), (.mv, 1), (.nm, 2), (.mv, 3), (.mv, 4), (.mv, 5), (.mv, 6), (.mv, 7)] rfl ?_
  refine gr_rd rfl rfl rfl (rd_move rfl) ?_
  refine gr_rd rfl rfl rfl (rd_loadA Tryd.ta38 rfl (Cells.own (l := encOp opTwo pv2) (T := 38) (z := (0, 0)) (by simp [baseL])) (Seg.all _) (encOp_length _ _)) ?_
  refine gr_perm (L' := ((b2, .cells [.map (some bo2), .map (some bw2), .map (some bt2)].toArray 83 (0, 0)) :: (bo2, ob2) :: (bw2, ow2) :: (bt2, ot2) :: ((b5, .cells (encOp opTwo pv2).toArray 38 (0, 0)) :: (b3, .cells (encOp opOne pv1).toArray 38 (0, 0)) :: ((b1, .cells [.map (some bo1), .map (some bw1), .map (some bt1)].toArray 83 (0, 0)) :: (bo1, ob3) :: (bw1, ow3) :: (bt1, ot3) :: L)))) (by haveI : DecidableEq (Nat × Obj) := fun _ _ => Classical.propDecidable _; rw [List.perm_iff_count]; intro a; simp only [List.count_append, List.count_cons, List.count_nil]; ac_rfl) ?_
  refine gr_nx rfl rfl rfl (nx_call Tryd.en13 rfl (take_cc _ hG _ hR2 (by decide) opTwo pv2 (hs2.any) small_two)) ?_; rintro v33 H' L' hle ⟨ob4, ow4, ot4, C4, vo4, hR4, hO4, rfl, rfl⟩; refine ⟨trivial, ?_⟩
  rw [alive_4] at hR4 hO4 ⊢
  obtain ⟨a4, c4, rfl, hc4⟩ := hO4.slice
  have hLE := Gh.le_trans hLE hle
  replace hG := hG.mono hle
  replace hs1 := hs1.up hle
  refine gr_drop (L' := ((b2, .cells [.map (some bo2), .map (some bw2), .map (some bt2)].toArray 83 (0, 0)) :: (bo2, ob4) :: (bw2, ow4) :: (bt2, ot4) :: ((b5, .cells (encOp opTwo pv2).toArray 38 (0, 0)) :: (b3, .cells (encOp opOne pv1).toArray 38 (0, 0)) :: ((b1, .cells [.map (some bo1), .map (some bw1), .map (some bt1)].toArray 83 (0, 0)) :: (bo1, ob3) :: (bw1, ow3) :: (bt1, ot3) :: L)))) (List.sublist_append_right _ _) ?_
  refine gr_rd rfl rfl rfl (rd_move rfl) ?_
  refine gr_rd rfl rfl rfl (rd_extract rfl rfl) ?_
  refine gr_rd rfl rfl rfl (rd_extract rfl rfl) ?_
  refine gr_rd rfl rfl rfl (rd_assign rfl) ?_
  refine gr_rd rfl rfl rfl (rd_assign rfl) ?_
  refine gr_nil ?_
  refine gk_then ?_
  refine gc_seq ?_
  refine gc_seqr [(.mv, 0), (.mv, 1), (.nm, 2), (.mv, 3), (.mv, 4), (.mv, 5), (.mv, 6), (.mv, 7)] rfl ?_
  refine gr_rd rfl rfl rfl (rd_move rfl) ?_
  refine gr_rd rfl rfl rfl (rd_loadA Tryd.ta38 rfl (Cells.own (l := encOp opOne pv1) (T := 38) (z := (0, 0)) (by simp [baseL])) (Seg.all _) (encOp_length _ _)) ?_
  refine gr_nx rfl rfl rfl (nx_call Tryd.en13 rfl (take_cc _ hG _ hR4 (by decide) opOne pv1 (hs1.any) small_one)) ?_; rintro v39 H' L' hle ⟨ob5, ow5, ot5, C5, vo5, hR5, hO5, rfl, rfl⟩; refine ⟨trivial, ?_⟩
  rw [alive_5] at hR5 hO5 ⊢
  obtain ⟨a5, c5, rfl, hc5⟩ := hO5.slice
  have hLE := Gh.le_trans hLE hle
  replace hG := hG.mono hle
  refine gr_drop (L' := ((b2, .cells [.map (some bo2), .map (some bw2), .map (some bt2)].toArray 83 (0, 0)) :: (bo2, ob5) :: (bw2, ow5) :: (bt2, ot5) :: ((b5, .cells (encOp opTwo pv2).toArray 38 (0, 0)) :: (b3, .cells (encOp opOne pv1).toArray 38 (0, 0)) :: ((b1, .cells [.map (some bo1), .map (some bw1), .map (some bt1)].toArray 83 (0, 0)) :: (bo1, ob3) :: (bw1, ow3) :: (bt1, ot3) :: L)))) (List.sublist_append_right _ _) ?_
  refine gr_rd rfl rfl rfl (rd_move rfl) ?_
  refine gr_rd rfl rfl rfl (rd_extract rfl rfl) ?_
  refine gr_rd rfl rfl rfl (rd_extract rfl rfl) ?_
  refine gr_rd rfl rfl rfl (rd_assign rfl) ?_
  refine gr_rd rfl rfl rfl (rd_assign rfl) ?_
  refine gr_nil ?_
  refine gk_then ?_
  refine gc_seq ?_
  refine gc_seqr [(.mv, 0), (.mv, 1), (.mv, 2), (.mv, 3), (.mv, 4), (.mv, 5), (.mv, 6), (.mv, 7), (.mv, 8), (.mv, 9), (.mv, 10), (.mv, 11), (.mv, 12), (.mv, 13), (.mv, 14), (.mv, 15), (.mv, 16), (.mv, 17), (.nm, 18), (.mv, 19), (.mv, 20), (.mv, 21), (.mv, 22)] rfl ?_
  refine gr_rd rfl rfl rfl (rd_move rfl) ?_
  refine gr_rd rfl rfl rfl (rd_eql rfl rfl) ?_
  refine gr_rd rfl rfl rfl (rd_move rfl) ?_
  refine gr_rd rfl rfl rfl (rd_move rfl) ?_
  refine gr_rd rfl rfl rfl (rd_eql rfl rfl) ?_
  (first | refine gr_rd rfl rfl rfl (rd_pick_t rfl rfl) ?_ | refine gr_rd rfl rfl rfl (rd_pick_f rfl rfl) ?_)
  refine gr_rd rfl rfl rfl (rd_move rfl) ?_
  refine gr_rd rfl rfl rfl (rd_move rfl) ?_
  refine gr_rd rfl rfl rfl (rd_lenS Tryd.underlying29 rfl) ?_
  refine gr_rd rfl rfl rfl (rd_eql rfl rfl) ?_
  (first | refine gr_rd rfl rfl rfl (rd_pick_t rfl rfl) ?_ | refine gr_rd rfl rfl rfl (rd_pick_f rfl rfl) ?_)
  refine gr_rd rfl rfl rfl (rd_move rfl) ?_
  refine gr_rd rfl rfl rfl (rd_move rfl) ?_
  refine gr_rd rfl rfl rfl (rd_lenS Tryd.underlying29 rfl) ?_
  refine gr_rd rfl rfl rfl (rd_eql rfl rfl) ?_
  (first | refine gr_rd rfl rfl rfl (rd_pick_t rfl rfl) ?_ | refine gr_rd rfl rfl rfl (rd_pick_f rfl rfl) ?_)
  refine gr_rd rfl rfl rfl (rd_move rfl) ?_
  refine gr_rd rfl rfl rfl (rd_move rfl) ?_
  refine gr_nx rfl rfl rfl (nx_call Tryd.en21 rfl (heads_cc _ _ hR5 (by decide))) ?_; rintro v60 H' L' hle ⟨C6, hO6, rfl, rfl⟩; refine ⟨trivial, ?_⟩
  obtain ⟨a6, c6, rfl, hc6⟩ := hO6.slice
  rw [alive_6]
  refine gr_rd rfl rfl rfl (rd_lenS Tryd.underlying29 rfl) ?_
  refine gr_rd rfl rfl rfl (rd_eql rfl rfl) ?_
  (first | refine gr_rd rfl rfl rfl (rd_pick_t rfl rfl) ?_ | refine gr_rd rfl rfl rfl (rd_pick_f rfl rfl) ?_)
  refine gr_rd rfl rfl rfl (rd_assign rfl) ?_
  refine gr_nil ?_
  refine gk_then ?_
  refine gc_ret ?_
  refine gk_drop (L' := ([] ++ L)) (by repeat (first | exact List.Sublist.refl _ | exact List.nil_sublist _ | apply List.Sublist.cons_cons | apply List.Sublist.cons | refine List.Sublist.trans ?_ (List.sublist_append_right _ _))) ?_
  refine gk_result (L' := [] ++ L) (.inl rfl) _ (res1 rfl rfl) (List.Sublist.refl _) (by assumption) ?_
  exact ⟨rfl, rfl⟩
end Go.Proofs.YtfhldfjknagidaaDoor
