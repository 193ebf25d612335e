/-
  Walks: the program's set takes an operation.
-/
import Derived.Test.YtfhldfjknagidaaDoorVKs19
set_option linter.unusedSimpArgs false
set_option linter.unusedVariables false
set_option linter.unnecessarySimpa false
set_option linter.all false
namespace Go.Proofs.YtfhldfjknagidaaDoor
open Go.VK Go.Tr
set_option maxRecDepth 20000
attribute [local irreducible] Go.Tr.sha
structure TS where
  k : Nat
  s : DSet
  out : List Nm
  ob : Obj
  ow : Obj
  ot : Obj
  C : Chunks
  vo : Value
  b12 : Nat
theorem settle_done {k : Nat} {s : DSet} {out : List Nm} (hnd : (s.wait.map (·.1)).Nodup) (h : readyOf s = none) : Tr.settle k s out = (s, out) := by
  cases k with
  | zero => rfl
  | succ k => rw [Tr.settle, ready_none hnd h]
theorem settle_next {k : Nat} {s : DSet} {out : List Nm} {n : Nm} (hnd : (s.wait.map (·.1)).Nodup) (h : readyOf s = some n) : ∃ q, Tr.get s.wait n = some q ∧ whole s q = true ∧
    Tr.settle (k + 1) s out = if q.depth = depthOf s q.preds then Tr.settle k ⟨s.ops ++ [(n, q)], s.wait.filter fun p => !(p.1 == n)⟩ (out ++ [n]) else Tr.settle k ⟨s.ops, s.wait.filter fun p => !(p.1 == n)⟩ out := by
  obtain ⟨i, o, h1, h2, h3, h4, h5⟩ := ready_some hnd h
  refine ⟨o, h3, h4, ?_⟩
  rw [settle_step h1 h2, h5]
  rfl
theorem filter_less {l : List (Nm × POp)} {n : Nm} (h : has l n = true) : (l.filter fun p => !(p.1 == n)).length < l.length := by
  obtain ⟨p, hp, he⟩ := List.any_eq_true.1 h
  refine List.length_filter_lt_length_iff_exists.2 ⟨p, hp, ?_⟩
  simp [he]

set_option maxHeartbeats 4000000 in
theorem take_cc (H : Gh) (hG : Glob H) (L : Chunks) {b bo bw bt : Nat} {s : DSet} {ob ow ot : Obj} (hR : DRep H s ob ow ot) (hz : s.ops.length + s.wait.length < 16777215) (o : POp) (pv : Value) (hp : Ids H L pv o.preds) (ho : SmallO o) :
    CC Tryd.prog 13 #[pt b 0, ag (encOp o pv)] H ((b, .cells [.map (some bo), .map (some bw), .map (some bt)].toArray 83 (0, 0)) :: (bo, ob) :: (bw, ow) :: (bt, ot) :: L) (fun v H' L' => ∃ ob' ow' ot' C vo, DRep H' (take s o).1 ob' ow' ot' ∧ Ow 34 32 C vo (take s o).2.1.length ((take s o).2.1.flatMap encId) ∧ v = .tuple #[vo, i64 (take s o).2.2] ∧ C ++ ((b, .cells [.map (some bo), .map (some bw), .map (some bt)].toArray 83 (0, 0)) :: (bo, ob') :: (bw, ow') :: (bt, ot') :: L) = L') := by
  obtain ⟨mo, hMo, hmno, hlko⟩ := look_op hR.ops
  obtain ⟨mw, hMw, hmnw, hlkw⟩ := look_op hR.wait
  have hpl := ho.preds
  have hpm : ∀ (X : Chunks), (∀ x ∈ L, x ∈ X) → Ids H X pv o.preds := fun X hX => hp.mono (Gh.le_refl _) hX
  refine cc_of Tryd.func13 rfl (Nat.le_of_ble_eq_true rfl) ?_
  simp only [Tryd.ntmps13]
  refine gc_seq ?_
  refine gc_seqr [(.nm, 0), (.mv, 1), (.mv, 2)] rfl ?_
  refine gr_nx rfl rfl rfl (nx_box rfl rfl) ?_; rintro _ _ _ _ ⟨b3, rfl, rfl, rfl⟩; refine ⟨trivial, ?_⟩
  refine gr_rd rfl rfl rfl (rd_assign rfl) ?_
  refine gr_rd rfl rfl rfl (rd_assign rfl) ?_
  refine gr_nil ?_
  refine gk_then ?_
  refine gc_seq ?_
  refine gc_block ?_
  refine gc_seq ?_
  refine gc_seqr [(.mv, 0), (.mv, 1), (.mv, 2)] rfl ?_
  refine gr_rd rfl rfl rfl (rd_move rfl) ?_
  refine gr_rd rfl rfl rfl (rd_ptrNil Tryd.underlying27 rfl rfl) ?_
  refine gr_rd rfl rfl rfl (rd_assign rfl) ?_
  refine gr_nil ?_
  refine gk_then ?_
  refine gc_no rfl ?_
  refine gc_seq ?_
  refine gc_seqr [(.mv, 0), (.nm, 1), (.mv, 2), (.mv, 3)] rfl ?_
  refine gr_rd rfl rfl rfl (rd_loadA Tryd.ta38 rfl (Cells.own (l := encOp o pv) (T := 38) (z := (0, 0)) (by simp [baseL])) (Seg.all _) (encOp_length _ _)) ?_
  refine gr_nx rfl rfl rfl (nx_call Tryd.en42 rfl (good_cc _ _ o pv (hpm _ (by intro x hx; simp [hx])))) ?_; rintro v20 H' L' hle ⟨rfl, rfl, rfl⟩; refine ⟨trivial, ?_⟩
  refine gr_rd rfl rfl rfl (rd_not rfl) ?_
  refine gr_rd rfl rfl rfl (rd_assign rfl) ?_
  refine gr_nil ?_
  refine gk_then ?_
  refine gc_cond rfl (fun hcR3 => ?_) (fun hcR3 => ?_)
  · have ht : take s o = (s, [], 1) := by rw [take, if_pos (by simpa using hcR3)]
    refine gc_seq ?_
    refine gc_seqr [(.mv, 0), (.mv, 1)] rfl ?_
    refine gr_rd rfl rfl rfl (rd_assign rfl) ?_
    refine gr_rd rfl rfl rfl (rd_assign rfl) ?_
    refine gr_nil ?_
    refine gk_then ?_
    refine gc_ret ?_
    refine gk_ret_inBlock ?_
    refine gk_ret_then ?_
    refine gk_drop (L' := [] ++ ((b, .cells [.map (some bo), .map (some bw), .map (some bt)].toArray 83 (0, 0)) :: (bo, ob) :: (bw, ow) :: (bt, ot) :: L)) (by repeat (first | exact List.Sublist.refl _ | exact List.nil_sublist _ | apply List.Sublist.cons_cons | apply List.Sublist.cons | refine List.Sublist.trans ?_ (List.sublist_append_right _ _))) ?_
    refine gk_result (L' := [] ++ ((b, .cells [.map (some bo), .map (some bw), .map (some bt)].toArray 83 (0, 0)) :: (bo, ob) :: (bw, ow) :: (bt, ot) :: L)) (.inl rfl) _ (res2 rfl rfl rfl) (List.Sublist.refl _) (by first | exact Gh.le_refl _ | assumption | exact Gh.le_trans (by assumption) (by assumption)) ?_
    exact ⟨ob, ow, ot, [], _, by rw [ht]; exact hR, by rw [ht]; exact Ow.nil, by rw [ht], rfl⟩
  · have hgd : good o = true := by simpa using hcR3
    have hps := good_small hgd
    refine gc_skip ?_
    refine gk_inBlock ?_
    refine gk_then ?_
    refine gc_seq ?_
    refine gc_seqr [(.mv, 0), (.nm, 1), (.nm, 2), (.nm, 3)] rfl ?_
    refine gr_rd rfl rfl rfl (rd_loadA Tryd.ta38 rfl (Cells.own (l := encOp o pv) (T := 38) (z := (0, 0)) (by simp [baseL])) (Seg.all _) (encOp_length _ _)) ?_
    refine gr_nx rfl rfl rfl (nx_call Tryd.en43 rfl (name_cc _ hG _ o pv (hpm _ (by intro x hx; simp [hx])) ho)) ?_; rintro v23 H' L' hle ⟨rfl, rfl, rfl⟩; refine ⟨trivial, ?_⟩
    refine gr_nx rfl rfl rfl (nx_alloc Tryd.zeroValue34 rfl) ?_; rintro _ _ _ _ ⟨b6, rfl, rfl, rfl⟩; refine ⟨trivial, ?_⟩
    refine gr_nx0 rfl rfl (nx_store (vs := encId (nameOf o)) Tryd.sizeOf34 rfl rfl rfl (encId_length _) (by repeat (first | exact Upd.here | exact Upd.appl (by assumption) | apply Upd.there | apply Upd.app)) (by simp) (encId_ones _)) ?_; rintro _ _ _ _ ⟨rfl, rfl, rfl⟩; refine ⟨trivial, ?_⟩
    rw [wr_all (by simp)]
    refine gr_nil ?_
    refine gk_then ?_
    refine gc_seq ?_
    refine gc_draw Tryd.mixed [(.mv, 0), (.mv, 1), (.mv, 2), (.mv, 3), (.mv, 4), (.mv, 5), (.mv, 6), (.mv, 7), (.mv, 8), (.nm, 9), (.nm, 10), (.mv, 11)] (by decide +kernel) _ (List.Sublist.refl _) ?_
    refine gr_rd rfl rfl rfl (rd_move rfl) ?_
    refine gr_rd rfl rfl rfl (rd_nilCheck rfl) ?_
    refine gr_rd rfl rfl rfl (rd_fieldAddr Tryd.fa83_0 rfl) ?_
    refine gr_rd rfl rfl rfl (rd_load1 Tryd.to80 rfl (Cells.own (l := [.map (some bo), .map (some bw), .map (some bt)]) (T := 83) (z := (0, 0)) (by simp [baseL])) rfl) ?_
    refine gr_rd rfl rfl rfl (rd_loadA Tryd.ta34 rfl (Cells.own (l := encId (nameOf o)) (T := 34) (z := (0, 0)) (by simp [baseL])) (Seg.all _) (encId_length _)) ?_
    refine gr_rd rfl rfl rfl (rd_lookupOk Tryd.tm Tryd.zop rfl rfl (by simp [baseL]) hMo) ?_
    obtain ⟨q1, pq1, hq11, hq12, hq13, hq14⟩ := hlko (nameOf o)
    rw [hq11, hq12]
    refine gr_rd rfl rfl rfl (rd_move rfl) ?_
    refine gr_rd rfl rfl rfl (rd_extract rfl rfl) ?_
    refine gr_rd rfl rfl rfl (rd_extract rfl rfl) ?_
    refine gr_nx rfl rfl rfl (nx_alloc Tryd.zeroValue38 rfl) ?_; rintro _ _ _ _ ⟨b7, rfl, rfl, rfl⟩; refine ⟨⟨(by first | exact Gh.le_refl _ | assumption | exact Gh.le_trans (by assumption) (by assumption)), (by repeat (first | exact List.Sublist.refl _ | exact List.nil_sublist _ | apply List.Sublist.cons_cons | apply List.Sublist.cons | apply List.Sublist.append (List.Sublist.refl _) | refine List.Sublist.trans ?_ (List.sublist_append_right _ _)))⟩, ?_⟩
    refine gr_nx0 rfl rfl (nx_store (vs := encOp q1 pq1) Tryd.sizeOf38 rfl rfl rfl (encOp_length _ _) (by repeat (first | exact Upd.here | exact Upd.appl (by assumption) | apply Upd.there | apply Upd.app)) (by simp) (encOp_ones _ hq13.one)) ?_; rintro _ _ _ _ ⟨rfl, rfl, rfl⟩; refine ⟨⟨(by first | exact Gh.le_refl _ | assumption | exact Gh.le_trans (by assumption) (by assumption)), (by repeat (first | exact List.Sublist.refl _ | exact List.nil_sublist _ | apply List.Sublist.cons_cons | apply List.Sublist.cons | apply List.Sublist.append (List.Sublist.refl _) | refine List.Sublist.trans ?_ (List.sublist_append_right _ _)))⟩, ?_⟩
    rw [wr_all (by simp)]
    refine gr_rd rfl rfl rfl (rd_assign rfl) ?_
    refine gr_nil ?_
    refine gk_then ?_
    refine gc_seq ?_
    refine gc_draw Tryd.mixed [(.mv, 0), (.mv, 1), (.mv, 2), (.mv, 3), (.mv, 4), (.mv, 5), (.mv, 6), (.mv, 7), (.mv, 8), (.nm, 9), (.nm, 10), (.mv, 11)] (by decide +kernel) _ (List.Sublist.refl _) ?_
    refine gr_rd rfl rfl rfl (rd_move rfl) ?_
    refine gr_rd rfl rfl rfl (rd_nilCheck rfl) ?_
    refine gr_rd rfl rfl rfl (rd_fieldAddr Tryd.fa83_1 rfl) ?_
    refine gr_rd rfl rfl rfl (rd_load1 Tryd.to80 rfl (Cells.own (l := [.map (some bo), .map (some bw), .map (some bt)]) (T := 83) (z := (0, 0)) (by simp [baseL])) rfl) ?_
    refine gr_rd rfl rfl rfl (rd_loadA Tryd.ta34 rfl (Cells.own (l := encId (nameOf o)) (T := 34) (z := (0, 0)) (by simp [baseL])) (Seg.all _) (encId_length _)) ?_
    refine gr_rd rfl rfl rfl (rd_lookupOk Tryd.tm Tryd.zop rfl rfl (by simp [baseL]) hMw) ?_
    obtain ⟨q2, pq2, hq21, hq22, hq23, hq24⟩ := hlkw (nameOf o)
    rw [hq21, hq22]
    refine gr_rd rfl rfl rfl (rd_move rfl) ?_
    refine gr_rd rfl rfl rfl (rd_extract rfl rfl) ?_
    refine gr_rd rfl rfl rfl (rd_extract rfl rfl) ?_
    refine gr_nx rfl rfl rfl (nx_alloc Tryd.zeroValue38 rfl) ?_; rintro _ _ _ _ ⟨b9, rfl, rfl, rfl⟩; refine ⟨⟨(by first | exact Gh.le_refl _ | assumption | exact Gh.le_trans (by assumption) (by assumption)), (by repeat (first | exact List.Sublist.refl _ | exact List.nil_sublist _ | apply List.Sublist.cons_cons | apply List.Sublist.cons | apply List.Sublist.append (List.Sublist.refl _) | refine List.Sublist.trans ?_ (List.sublist_append_right _ _)))⟩, ?_⟩
    refine gr_nx0 rfl rfl (nx_store (vs := encOp q2 pq2) Tryd.sizeOf38 rfl rfl rfl (encOp_length _ _) (by repeat (first | exact Upd.here | exact Upd.appl (by assumption) | apply Upd.there | apply Upd.app)) (by simp) (encOp_ones _ hq23.one)) ?_; rintro _ _ _ _ ⟨rfl, rfl, rfl⟩; refine ⟨⟨(by first | exact Gh.le_refl _ | assumption | exact Gh.le_trans (by assumption) (by assumption)), (by repeat (first | exact List.Sublist.refl _ | exact List.nil_sublist _ | apply List.Sublist.cons_cons | apply List.Sublist.cons | apply List.Sublist.append (List.Sublist.refl _) | refine List.Sublist.trans ?_ (List.sublist_append_right _ _)))⟩, ?_⟩
    rw [wr_all (by simp)]
    refine gr_rd rfl rfl rfl (rd_assign rfl) ?_
    refine gr_nil ?_
    refine gk_then ?_
    refine gc_seq ?_
    refine gc_block ?_
    refine gc_seq ?_
    refine gc_seqr [(.mv, 0), (.mv, 1), (.mv, 2), (.mv, 3), (.mv, 4)] rfl ?_
    refine gr_rd rfl rfl rfl (rd_move rfl) ?_
    refine gr_rd rfl rfl rfl (rd_move rfl) ?_
    refine gr_split rfl (fun hg1 => ?_) (fun hg1 => ?_)
    · skip
      refine gr_no rfl rfl rfl ?_
      (first | refine gr_rd rfl rfl rfl (rd_pick_t rfl rfl) ?_ | refine gr_rd rfl rfl rfl (rd_pick_f rfl rfl) ?_)
      refine gr_rd rfl rfl rfl (rd_assign rfl) ?_
      refine gr_nil ?_
      refine gk_then ?_
      refine gc_yes rfl ?_
      have hin : (has s.ops (nameOf o) || has s.wait (nameOf o)) = true := by
        first | (rw [hg1]; rfl) | (rw [hcR8]; simp)
      have ht : take s o = (s, [], 9) := by rw [take, if_neg (by rw [hgd]; decide), if_pos hin]
      refine gc_seq ?_
      refine gc_seqr [(.mv, 0), (.mv, 1)] rfl ?_
      refine gr_rd rfl rfl rfl (rd_assign rfl) ?_
      refine gr_rd rfl rfl rfl (rd_assign rfl) ?_
      refine gr_nil ?_
      refine gk_then ?_
      refine gc_ret ?_
      refine gk_ret_inBlock ?_
      refine gk_ret_then ?_
      refine gk_drop (L' := [] ++ ((b, .cells [.map (some bo), .map (some bw), .map (some bt)].toArray 83 (0, 0)) :: (bo, ob) :: (bw, ow) :: (bt, ot) :: L)) (by repeat (first | exact List.Sublist.refl _ | exact List.nil_sublist _ | apply List.Sublist.cons_cons | apply List.Sublist.cons | refine List.Sublist.trans ?_ (List.sublist_append_right _ _))) ?_
      refine gk_result (L' := [] ++ ((b, .cells [.map (some bo), .map (some bw), .map (some bt)].toArray 83 (0, 0)) :: (bo, ob) :: (bw, ow) :: (bt, ot) :: L)) (.inl rfl) _ (res2 rfl rfl rfl) (List.Sublist.refl _) (by first | exact Gh.le_refl _ | assumption | exact Gh.le_trans (by assumption) (by assumption)) ?_
      exact ⟨ob, ow, ot, [], _, by rw [ht]; exact hR, by rw [ht]; exact Ow.nil, by rw [ht], rfl⟩
    · skip
      refine gr_rd rfl rfl rfl (rd_move rfl) ?_
      (first | refine gr_rd rfl rfl rfl (rd_pick_t rfl rfl) ?_ | refine gr_rd rfl rfl rfl (rd_pick_f rfl rfl) ?_)
      refine gr_rd rfl rfl rfl (rd_assign rfl) ?_
      refine gr_nil ?_
      refine gk_then ?_
      refine gc_cond rfl (fun hcR8 => ?_) (fun hcR8 => ?_)
      · have hin : (has s.ops (nameOf o) || has s.wait (nameOf o)) = true := by
          first | (rw [hg1]; rfl) | (rw [hcR8]; simp)
        have ht : take s o = (s, [], 9) := by rw [take, if_neg (by rw [hgd]; decide), if_pos hin]
        refine gc_seq ?_
        refine gc_seqr [(.mv, 0), (.mv, 1)] rfl ?_
        refine gr_rd rfl rfl rfl (rd_assign rfl) ?_
        refine gr_rd rfl rfl rfl (rd_assign rfl) ?_
        refine gr_nil ?_
        refine gk_then ?_
        refine gc_ret ?_
        refine gk_ret_inBlock ?_
        refine gk_ret_then ?_
        refine gk_drop (L' := [] ++ ((b, .cells [.map (some bo), .map (some bw), .map (some bt)].toArray 83 (0, 0)) :: (bo, ob) :: (bw, ow) :: (bt, ot) :: L)) (by repeat (first | exact List.Sublist.refl _ | exact List.nil_sublist _ | apply List.Sublist.cons_cons | apply List.Sublist.cons | refine List.Sublist.trans ?_ (List.sublist_append_right _ _))) ?_
        refine gk_result (L' := [] ++ ((b, .cells [.map (some bo), .map (some bw), .map (some bt)].toArray 83 (0, 0)) :: (bo, ob) :: (bw, ow) :: (bt, ot) :: L)) (.inl rfl) _ (res2 rfl rfl rfl) (List.Sublist.refl _) (by first | exact Gh.le_refl _ | assumption | exact Gh.le_trans (by assumption) (by assumption)) ?_
        exact ⟨ob, ow, ot, [], _, by rw [ht]; exact hR, by rw [ht]; exact Ow.nil, by rw [ht], rfl⟩
      · have hno : has s.ops (nameOf o) = false := hg1
        have hnw : has s.wait (nameOf o) = false := hcR8
        have hin : ¬ (has s.ops (nameOf o) || has s.wait (nameOf o)) = true := by rw [hno, hnw]; decide
        refine gc_seq ?_
        refine gc_seqr [(.mv, 0), (.mv, 1), (.nm, 2), (.mv, 3), (.mv, 4), (.mv, 5)] rfl ?_
        refine gr_rd rfl rfl rfl (rd_move rfl) ?_
        refine gr_rd rfl rfl rfl (rd_loadA Tryd.ta38 rfl (Cells.own (l := encOp o pv) (T := 38) (z := (0, 0)) (by simp [baseL])) (Seg.all _) (encOp_length _ _)) ?_
        refine gr_nx rfl rfl rfl (nx_call Tryd.en44 rfl (lacks_cc _ _ (hR.view (b := b) (bo := bo) (bw := bw) (bt := bt) (Cells.own (l := [.map (some bo), .map (some bw), .map (some bt)]) (T := 83) (z := (0, 0)) (by simp )) (by simp) (by simp) (by simp)) o pv (hpm _ (by intro x hx; simp [hx])) hpl)) ?_; rintro v50 H' L' hle ⟨C1, hO1, rfl, rfl⟩; refine ⟨trivial, ?_⟩
        obtain ⟨a1, c1, rfl, hc1⟩ := hO1.slice
        refine gr_drop (L' := (b9, .cells (encOp q2 pq2).toArray 38 (0, 0)) :: (b7, .cells (encOp q1 pq1).toArray 38 (0, 0)) :: (b6, .cells (encId (nameOf o)).toArray 34 (0, 0)) :: (b3, .cells (encOp o pv).toArray 38 (0, 0)) :: ((b, .cells [.map (some bo), .map (some bw), .map (some bt)].toArray 83 (0, 0)) :: (bo, ob) :: (bw, ow) :: (bt, ot) :: L)) (List.sublist_append_right _ _) ?_
        refine gr_rd rfl rfl rfl (rd_lenS Tryd.underlying29 rfl) ?_
        refine gr_rd rfl rfl rfl (rd_gtr rfl rfl) ?_
        refine gr_rd rfl rfl rfl (rd_assign rfl) ?_
        refine gr_nil ?_
        refine gk_then ?_
        refine gc_cond rfl (fun hcR10 => ?_) (fun hcR10 => ?_)
        · have hw : whole s o = false := by have := lacks_whole s o; rw [hcR10] at this; simpa using this.symm
          have ht : take s o = (⟨s.ops, s.wait ++ [(nameOf o, o)]⟩, [], 0) := by rw [take, if_neg (by rw [hgd]; decide), if_neg hin, if_pos (by rw [hw]; rfl)]
          refine gc_seq ?_
          refine gc_draw Tryd.mixed [(.mv, 0), (.mv, 1), (.mv, 2), (.mv, 3), (.mv, 4), (.mv, 5), (.nm, 6), (.fin, 7)] (by decide +kernel) _ (List.Sublist.refl _) ?_
          refine gr_rd rfl rfl rfl (rd_move rfl) ?_
          refine gr_rd rfl rfl rfl (rd_nilCheck rfl) ?_
          refine gr_rd rfl rfl rfl (rd_fieldAddr Tryd.fa83_1 rfl) ?_
          refine gr_rd rfl rfl rfl (rd_load1 Tryd.to80 rfl (Cells.own (l := [.map (some bo), .map (some bw), .map (some bt)]) (T := 83) (z := (0, 0)) (by simp [baseL])) rfl) ?_
          refine gr_rd rfl rfl rfl (rd_loadA Tryd.ta34 rfl (Cells.own (l := encId (nameOf o)) (T := 34) (z := (0, 0)) (by simp [baseL])) (Seg.all _) (encId_length _)) ?_
          refine gr_rd rfl rfl rfl (rd_loadA Tryd.ta38 rfl (Cells.own (l := encOp o pv) (T := 38) (z := (0, 0)) (by simp [baseL])) (Seg.all _) (encOp_length _ _)) ?_
          refine gr_nx rfl rfl rfl (nx_call Tryd.en45 rfl (clone_cc _ _ o pv (hpm _ (by intro x hx; simp [hx])) hpl)) ?_; rintro v59 H' L' hle ⟨C2, u2, rfl, hO2, rfl, rfl⟩; refine ⟨⟨(by first | exact Gh.le_refl _ | assumption | exact Gh.le_trans (by assumption) (by assumption)), (by repeat (first | exact List.Sublist.refl _ | exact List.nil_sublist _ | apply List.Sublist.cons_cons | apply List.Sublist.cons | apply List.Sublist.append (List.Sublist.refl _) | refine List.Sublist.trans ?_ (List.sublist_append_right _ _)))⟩, ?_⟩
          refine gr_sealOw encId_length hO2 rfl (by omega) (fun H2 hH2 hs2 => ?_)
          have hR2 := hR.up hH2
          obtain ⟨mw2, hMw2, hst2⟩ := hR2.wait.store hnw hs2
          refine gr_fin0 rfl rfl (nx_mapUpd (F := fun o1 => (b9, .cells (encOp q2 pq2).toArray 38 (0, 0)) :: (b7, .cells (encOp q1 pq1).toArray 38 (0, 0)) :: (b6, .cells (encId (nameOf o)).toArray 34 (0, 0)) :: (b3, .cells (encOp o pv).toArray 38 (0, 0)) :: ((b, .cells [.map (some bo), .map (some bw), .map (some bt)].toArray 83 (0, 0)) :: (bo, ob) :: (bw, o1) :: (bt, ot) :: L)) Tryd.tm rfl rfl rfl hMw2 (fun _ => (by repeat (first | exact Upd.here | exact Upd.appl (by assumption) | apply Upd.there | apply Upd.app)))) ?_; rintro _ H' L' hle ⟨ow1, rfl, rfl, hM1, rfl⟩
          have hR3 := hR2.wait' hno hnw hps (hst2 ow1 hM1)
          refine gr_nil ?_
          refine gk_then ?_
          refine gc_seq ?_
          refine gc_seqr [(.mv, 0), (.mv, 1)] rfl ?_
          refine gr_rd rfl rfl rfl (rd_assign rfl) ?_
          refine gr_rd rfl rfl rfl (rd_assign rfl) ?_
          refine gr_nil ?_
          refine gk_then ?_
          refine gc_ret ?_
          refine gk_ret_inBlock ?_
          refine gk_ret_then ?_
          refine gk_drop (L' := [] ++ ((b, .cells [.map (some bo), .map (some bw), .map (some bt)].toArray 83 (0, 0)) :: (bo, ob) :: (bw, ow1) :: (bt, ot) :: L)) (by repeat (first | exact List.Sublist.refl _ | exact List.nil_sublist _ | apply List.Sublist.cons_cons | apply List.Sublist.cons | refine List.Sublist.trans ?_ (List.sublist_append_right _ _))) ?_
          refine gk_result (L' := [] ++ ((b, .cells [.map (some bo), .map (some bw), .map (some bt)].toArray 83 (0, 0)) :: (bo, ob) :: (bw, ow1) :: (bt, ot) :: L)) (.inl rfl) _ (res2 rfl rfl rfl) (List.Sublist.refl _) (by first | exact Gh.le_refl _ | assumption | exact Gh.le_trans (by assumption) (by assumption)) ?_
          exact ⟨ob, ow1, ot, [], _, by rw [ht]; exact hR3, by rw [ht]; exact Ow.nil, by rw [ht], rfl⟩
        · have hw : whole s o = true := by have := lacks_whole s o; rw [hcR10] at this; simpa using this.symm
          refine gc_seq ?_
          refine gc_draw Tryd.mixed [(.mv, 0), (.mv, 1), (.mv, 2), (.nm, 3), (.fin, 4), (.fin, 5), (.fin, 6)] (by decide +kernel) [(b6, .cells (encId (nameOf o)).toArray 34 (0, 0)), (b3, .cells (encOp o pv).toArray 38 (0, 0))] ((by repeat (first | exact List.Sublist.refl _ | exact List.nil_sublist _ | apply List.Sublist.cons_cons | apply List.Sublist.cons | refine List.Sublist.trans ?_ (List.sublist_append_right _ _)))) ?_
          refine gr_rd rfl rfl rfl (rd_move rfl) ?_
          refine gr_rd rfl rfl rfl (rd_loadA Tryd.ta34 rfl (Cells.own (l := encId (nameOf o)) (T := 34) (z := (0, 0)) (by simp [baseL])) (Seg.all _) (encId_length _)) ?_
          refine gr_rd rfl rfl rfl (rd_loadA Tryd.ta38 rfl (Cells.own (l := encOp o pv) (T := 38) (z := (0, 0)) (by simp [baseL])) (Seg.all _) (encOp_length _ _)) ?_
          refine gr_nx rfl rfl rfl (nx_call Tryd.en45 rfl (clone_cc _ _ o pv (hpm _ (by intro x hx; simp [hx])) hpl)) ?_; rintro v64 H' L' hle ⟨C2, u2, rfl, hO2, rfl, rfl⟩; refine ⟨⟨(by first | exact Gh.le_refl _ | assumption | exact Gh.le_trans (by assumption) (by assumption)), (by repeat (first | exact List.Sublist.refl _ | exact List.nil_sublist _ | apply List.Sublist.cons_cons | apply List.Sublist.cons | apply List.Sublist.append (List.Sublist.refl _) | refine List.Sublist.trans ?_ (List.sublist_append_right _ _)))⟩, ?_⟩
          refine gr_sealOw encId_length hO2 rfl (by omega) (fun H2 hH2 hs2 => ?_)
          replace hR := hR.up hH2
          refine gr_perm (L' := ((b, .cells [.map (some bo), .map (some bw), .map (some bt)].toArray 83 (0, 0)) :: (bo, ob) :: (bw, ow) :: (bt, ot) :: ((b9, .cells (encOp q2 pq2).toArray 38 (0, 0)) :: (b7, .cells (encOp q1 pq1).toArray 38 (0, 0)) :: (b6, .cells (encId (nameOf o)).toArray 34 (0, 0)) :: (b3, .cells (encOp o pv).toArray 38 (0, 0)) :: L))) (by haveI : DecidableEq (Nat × Obj) := fun _ _ => Classical.propDecidable _; rw [List.perm_iff_count]; intro a; simp only [List.count_append, List.count_cons, List.count_nil]; ac_rfl) ?_
          refine gr_fin rfl rfl rfl (nx_call Tryd.en46 rfl (put_cc _ _ hR (by omega) (nameOf o) o u2 hs2 hno hps)) ?_; rintro v65 H' L' hle ⟨ob1, ot1, rfl, hput1, hput2, rfl, rfl⟩
          (refine gr_fin rfl rfl rfl (Rd.nx (rd_not rfl)) ?_; rintro _ _ _ _ ⟨rfl, rfl, rfl⟩)
          refine gr_fin rfl rfl rfl (Rd.nx (rd_assign rfl)) ?_; rintro _ _ _ _ ⟨rfl, rfl, rfl⟩
          refine gr_nil ?_
          refine gk_then ?_
          refine gc_cond rfl (fun hcR13 => ?_) (fun hcR13 => ?_)
          · have hd : ¬ o.depth = depthOf s o.preds := by simpa using hcR13
            obtain ⟨e1, e2⟩ := hput2 hd
            rw [e1, e2]
            have ht : take s o = (s, [], 10) := by rw [take, if_neg (by rw [hgd]; decide), if_neg hin, if_neg (by rw [hw]; decide), if_pos hd]
            refine gc_seq ?_
            refine gc_seqr [(.mv, 0), (.mv, 1)] rfl ?_
            refine gr_rd rfl rfl rfl (rd_assign rfl) ?_
            refine gr_rd rfl rfl rfl (rd_assign rfl) ?_
            refine gr_nil ?_
            refine gk_then ?_
            refine gc_ret ?_
            refine gk_ret_inBlock ?_
            refine gk_ret_then ?_
            refine gk_drop (L' := [] ++ ((b, .cells [.map (some bo), .map (some bw), .map (some bt)].toArray 83 (0, 0)) :: (bo, ob) :: (bw, ow) :: (bt, ot) :: L)) (by repeat (first | exact List.Sublist.refl _ | exact List.nil_sublist _ | apply List.Sublist.cons_cons | apply List.Sublist.cons | refine List.Sublist.trans ?_ (List.sublist_append_right _ _))) ?_
            refine gk_result (L' := [] ++ ((b, .cells [.map (some bo), .map (some bw), .map (some bt)].toArray 83 (0, 0)) :: (bo, ob) :: (bw, ow) :: (bt, ot) :: L)) (.inl rfl) _ (res2 rfl rfl rfl) (List.Sublist.refl _) (by first | exact Gh.le_refl _ | assumption | exact Gh.le_trans (by assumption) (by assumption)) ?_
            exact ⟨ob, ow, ot, [], _, by rw [ht]; exact hR, by rw [ht]; exact Ow.nil, by rw [ht], rfl⟩
          · have hd : o.depth = depthOf s o.preds := by simpa using hcR13
            obtain ⟨hp1, hp2⟩ := hput1 hd
            have hR1 := hR.put hno hnw hps hp1 hp2
            obtain ⟨s1, hs1⟩ : ∃ s1 : DSet, (⟨s.ops ++ [(nameOf o, o)], s.wait⟩ : DSet) = s1 := ⟨_, rfl⟩
            have h1l : s1.ops.length = s.ops.length + 1 ∧ s1.wait.length = s.wait.length := by rw [← hs1]; simp
            have ht : take s o = ((Tr.settle (s.wait.length + 1) s1 [nameOf o]).1, (Tr.settle (s.wait.length + 1) s1 [nameOf o]).2, 0) := by rw [take, if_neg (by rw [hgd]; decide), if_neg hin, if_neg (by rw [hw]; decide), if_neg (by rw [hd]; simp), hs1]
            rw [hs1] at hR1
            refine gc_skip ?_
            refine gk_inBlock ?_
            refine gk_then ?_
            refine gc_seq ?_
            refine gc_seqr [(.mv, 0), (.nm, 1), (.mv, 2)] rfl ?_
            refine gr_rd rfl rfl rfl (rd_loadA Tryd.ta34 rfl (Cells.own (l := encId (nameOf o)) (T := 34) (z := (0, 0)) (by simp [baseL])) (Seg.all _) (encId_length _)) ?_
            refine gr_nx rfl rfl rfl (nx_sliceA1 Tryd.underlying29 Tryd.sizeOf34 Tryd.zeroValue34 rfl rfl rfl (by first | exact encId_length _ | exact encOp_length _ _ | exact encDraft_length _ | rfl | simp) rfl) ?_; rintro _ _ _ _ ⟨b68, rfl, rfl, rfl⟩; refine ⟨trivial, ?_⟩
            refine gr_rd rfl rfl rfl (rd_assign rfl) ?_
            refine gr_nil ?_
            refine gk_then ?_
            refine gc_seq ?_
            refine gc_seq ?_
            refine gc_seqr [(.mv, 0), (.nm, 1), (.mv, 2), (.mv, 3), (.mv, 4), (.nm, 5), (.nm, 6), (.mv, 7)] rfl ?_
            refine gr_rd rfl rfl rfl (rd_move rfl) ?_
            refine gr_perm (L' := ((b, .cells [.map (some bo), .map (some bw), .map (some bt)].toArray 83 (0, 0)) :: (bo, ob1) :: (bw, ow) :: (bt, ot1) :: ((b68, .cells (encId (nameOf o)).toArray 34 (0, 0)) :: (b9, .cells (encOp q2 pq2).toArray 38 (0, 0)) :: (b7, .cells (encOp q1 pq1).toArray 38 (0, 0)) :: (b6, .cells (encId (nameOf o)).toArray 34 (0, 0)) :: (b3, .cells (encOp o pv).toArray 38 (0, 0)) :: L))) (by haveI : DecidableEq (Nat × Obj) := fun _ _ => Classical.propDecidable _; rw [List.perm_iff_count]; intro a; simp only [List.count_append, List.count_cons, List.count_nil]; ac_rfl) ?_
            refine gr_nx rfl rfl rfl (nx_call Tryd.en47 rfl (ready_cc _ _ hR1 (by omega))) ?_; rintro v71 H' L' hle ⟨rfl, rfl, rfl⟩; refine ⟨trivial, ?_⟩
            refine gr_rd rfl rfl rfl (rd_move rfl) ?_
            refine gr_rd rfl rfl rfl (rd_extract rfl rfl) ?_
            refine gr_rd rfl rfl rfl (rd_extract rfl rfl) ?_
            refine gr_nx rfl rfl rfl (nx_alloc Tryd.zeroValue34 rfl) ?_; rintro _ _ _ _ ⟨b12, rfl, rfl, rfl⟩; refine ⟨trivial, ?_⟩
            refine gr_nx0 rfl rfl (nx_store (vs := encId ((readyOf s1).getD Nm.zero)) Tryd.sizeOf34 rfl rfl rfl (encId_length _) (by repeat (first | exact Upd.here | exact Upd.appl (by assumption) | apply Upd.there | apply Upd.app)) (by simp) (encId_ones _)) ?_; rintro _ _ _ _ ⟨rfl, rfl, rfl⟩; refine ⟨trivial, ?_⟩
            rw [wr_all (by simp)]
            refine gr_rd rfl rfl rfl (rd_assign rfl) ?_
            refine gr_perm (L' := ([(b9, .cells (encOp q2 pq2).toArray 38 (0, 0)), (b7, .cells (encOp q1 pq1).toArray 38 (0, 0)), (b6, .cells (encId (nameOf o)).toArray 34 (0, 0)), (b3, .cells (encOp o pv).toArray 38 (0, 0))]) ++ ((b12, .cells (encId ((readyOf s1).getD Nm.zero)).toArray 34 (0, 0)) :: ([(b68, .cells (encId (nameOf o)).toArray 34 (0, 0))] ++ ((b, .cells [.map (some bo), .map (some bw), .map (some bt)].toArray 83 (0, 0)) :: (bo, ob1) :: (bw, ow) :: (bt, ot1) :: L)))) (by haveI : DecidableEq (Nat × Obj) := fun _ _ => Classical.propDecidable _; rw [List.perm_iff_count]; intro a; simp only [List.count_append, List.count_cons, List.count_nil]; ac_rfl) ?_
            refine gr_drop (L' := (b12, .cells (encId ((readyOf s1).getD Nm.zero)).toArray 34 (0, 0)) :: ([(b68, .cells (encId (nameOf o)).toArray 34 (0, 0))] ++ ((b, .cells [.map (some bo), .map (some bw), .map (some bt)].toArray 83 (0, 0)) :: (bo, ob1) :: (bw, ow) :: (bt, ot1) :: L))) (List.sublist_append_right _ _) ?_
            refine gr_nil ?_
            refine gk_then ?_
            refine gc_block ?_
            refine gc_loop (fun t : TS => [(0, pt b 0), (11, t.vo), (12, pt t.b12 0), (13, .bool (readyOf t.s).isSome)]) (fun t H3 L3 => H ≤ H3 ∧ (t.b12, .cells (encId ((readyOf t.s).getD Nm.zero)).toArray 34 (0, 0)) :: (t.C ++ ((b, .cells [.map (some bo), .map (some bw), .map (some bt)].toArray 83 (0, 0)) :: (bo, t.ob) :: (bw, t.ow) :: (bt, t.ot) :: L)) = L3 ∧ DRep H3 t.s t.ob t.ow t.ot ∧ Ow 34 32 t.C t.vo t.out.length (t.out.flatMap encId) ∧ t.s.ops.length + t.s.wait.length ≤ s.ops.length + s.wait.length + 1 ∧ t.out.length + t.s.wait.length ≤ s.wait.length + 1 ∧ t.s.wait.length < t.k ∧ Tr.settle t.k t.s t.out = Tr.settle (s.wait.length + 1) s1 [nameOf o]) (fun t => t.s.wait.length) (⟨s.wait.length + 1, s1, [nameOf o], ob1, ow, ot1, [(b68, .cells (encId (nameOf o)).toArray 34 (0, 0))], .slice (some ⟨b68, 0, none⟩) 1 1, b12⟩) ?_ (by repeat (first | exact Subs.nil | refine Subs.cons rfl ?_)) ?_
            · exact ⟨hH2, rfl, hR1, by simpa using Ow.new (by simp), by simp only; omega, by simp only [List.length_cons, List.length_nil]; omega, by simp only; omega, rfl⟩
            · rintro ⟨k, sx, out, ob2, ow2, ot2, C, vo, b12'⟩ H3 L3 ⟨hH3, rfl, hRx, hO, hz1, hz2, hkx, hset⟩
              simp only at hRx hO hz1 hz2 hkx hset
              show GC _ _ _ _ [(0, pt b 0), (11, vo), (12, pt b12' 0), (13, .bool (readyOf sx).isSome)] H3 ((b12', .cells (encId ((readyOf sx).getD Nm.zero)).toArray 34 (0, 0)) :: (C ++ ((b, .cells [.map (some bo), .map (some bw), .map (some bt)].toArray 83 (0, 0)) :: (bo, ob2) :: (bw, ow2) :: (bt, ot2) :: L)))
              refine gc_seq ?_
              refine gc_seq ?_
              refine gc_seqr [(.mv, 0)] rfl ?_
              refine gr_rd rfl rfl rfl (rd_move rfl) ?_
              refine gr_nil ?_
              refine gk_then ?_
              refine gc_cond rfl (fun hcR17 => ?_) (fun hcR17 => ?_)
              · obtain ⟨n, hn⟩ := Option.isSome_iff_exists.1 hcR17
                obtain ⟨k', rfl⟩ : ∃ k', k = k' + 1 := ⟨k - 1, by omega⟩
                obtain ⟨q, hgq, hwq, hsn⟩ := settle_next (k := k') (out := out) hRx.ndw hn
                rw [hn, Option.getD_some, Option.isSome_some]
                obtain ⟨mq, hMq, _, hlkq⟩ := look_op hRx.wait
                have hhw : has sx.wait n = true := by rw [← get_isSome, hgq]; rfl
                have hho := hRx.apart hhw
                have hqs := hRx.small _ (List.mem_append_right _ (get_mem hgq))
                simp only at hqs
                have hfl := filter_less hhw
                obtain ⟨md, hMd, hstd⟩ := hRx.wait.drop n
                refine gc_skip ?_
                refine gk_then ?_
                refine gc_seq ?_
                refine gc_block ?_
                refine gc_seq ?_
                refine gc_draw Tryd.mixed [(.mv, 0), (.mv, 1), (.mv, 2), (.mv, 3), (.mv, 4), (.mv, 5), (.nm, 6), (.fin, 7)] (by decide +kernel) _ (List.Sublist.refl _) ?_
                refine gr_rd rfl rfl rfl (rd_move rfl) ?_
                refine gr_rd rfl rfl rfl (rd_nilCheck rfl) ?_
                refine gr_rd rfl rfl rfl (rd_fieldAddr Tryd.fa83_1 rfl) ?_
                refine gr_rd rfl rfl rfl (rd_load1 Tryd.to80 rfl (Cells.own (l := [.map (some bo), .map (some bw), .map (some bt)]) (T := 83) (z := (0, 0)) (by simp [baseL])) rfl) ?_
                refine gr_rd rfl rfl rfl (rd_loadA Tryd.ta34 rfl (Cells.own (l := encId n) (T := 34) (z := (0, 0)) (by simp [baseL])) (Seg.all _) (encId_length _)) ?_
                refine gr_rd rfl rfl rfl (rd_lookup Tryd.tm Tryd.zop rfl rfl (by simp [baseL]) hMq) ?_
                obtain ⟨q', pq, hq1, hq2, hq3, hq4⟩ := hlkq n
                have hqq : q' = q := by
                  rcases hq4 with h | ⟨h, _⟩
                  · rw [hgq] at h; cases h; rfl
                  · rw [hgq] at h; cases h
                subst hqq
                rw [hq1]
                refine gr_nx rfl rfl rfl (nx_alloc Tryd.zeroValue38 rfl) ?_; rintro _ _ _ _ ⟨b14, rfl, rfl, rfl⟩; refine ⟨⟨(by first | exact Gh.le_refl _ | assumption | exact Gh.le_trans (by assumption) (by assumption)), (by repeat (first | exact List.Sublist.refl _ | exact List.nil_sublist _ | apply List.Sublist.cons_cons | apply List.Sublist.cons | apply List.Sublist.append (List.Sublist.refl _) | refine List.Sublist.trans ?_ (List.sublist_append_right _ _)))⟩, ?_⟩
                refine gr_fin0 rfl rfl (nx_store (vs := encOp q' pq) Tryd.sizeOf38 rfl rfl rfl (encOp_length _ _) (by repeat (first | exact Upd.here | exact Upd.appl (by assumption) | apply Upd.there | apply Upd.app)) (by simp) (encOp_ones _ hq3.one)) ?_; rintro _ _ _ _ ⟨rfl, rfl, rfl⟩
                rw [wr_all (by simp)]
                refine gr_nil ?_
                refine gk_then ?_
                refine gc_seq ?_
                refine gc_draw Tryd.mixed [(.mv, 0), (.mv, 1), (.mv, 2), (.mv, 3), (.mv, 4), (.fin, 5)] (by decide +kernel) _ (List.Sublist.refl _) ?_
                refine gr_rd rfl rfl rfl (rd_move rfl) ?_
                refine gr_rd rfl rfl rfl (rd_nilCheck rfl) ?_
                refine gr_rd rfl rfl rfl (rd_fieldAddr Tryd.fa83_1 rfl) ?_
                refine gr_rd rfl rfl rfl (rd_load1 Tryd.to80 rfl (Cells.own (l := [.map (some bo), .map (some bw), .map (some bt)]) (T := 83) (z := (0, 0)) (by simp [baseL])) rfl) ?_
                refine gr_rd rfl rfl rfl (rd_loadA Tryd.ta34 rfl (Cells.own (l := encId n) (T := 34) (z := (0, 0)) (by simp [baseL])) (Seg.all _) (encId_length _)) ?_
                refine gr_fin0 rfl rfl (nx_delete (F := fun o1 => (b14, .cells (encOp q' pq).toArray 38 (0, 0)) :: (b12', .cells (encId n).toArray 34 (0, 0)) :: (C ++ ((b, .cells [.map (some bo), .map (some bw), .map (some bt)].toArray 83 (0, 0)) :: (bo, ob2) :: (bw, o1) :: (bt, ot2) :: L))) Tryd.tm rfl rfl hMd (fun _ => (by repeat (first | exact Upd.here | exact Upd.appl (by assumption) | apply Upd.there | apply Upd.app)))) ?_; rintro _ H' L' hle5 ⟨ow3, rfl, hM3, rfl⟩
                have hRd := hRx.drop (hstd ow3 hM3)
                refine gr_nil ?_
                refine gk_then ?_
                refine gc_seq ?_
                refine gc_seqr [(.mv, 0), (.mv, 1), (.mv, 2), (.nm, 3)] rfl ?_
                refine gr_rd rfl rfl rfl (rd_move rfl) ?_
                refine gr_rd rfl rfl rfl (rd_loadA Tryd.ta34 rfl (Cells.own (l := encId n) (T := 34) (z := (0, 0)) (by simp [baseL])) (Seg.all _) (encId_length _)) ?_
                refine gr_rd rfl rfl rfl (rd_loadA Tryd.ta38 rfl (Cells.own (l := encOp q' pq) (T := 38) (z := (0, 0)) (by simp [baseL])) (Seg.all _) (encOp_length _ _)) ?_
                refine gr_perm (L' := ((b, .cells [.map (some bo), .map (some bw), .map (some bt)].toArray 83 (0, 0)) :: (bo, ob2) :: (bw, ow3) :: (bt, ot2) :: ((b14, .cells (encOp q' pq).toArray 38 (0, 0)) :: (b12', .cells (encId n).toArray 34 (0, 0)) :: (C ++ L)))) (by haveI : DecidableEq (Nat × Obj) := fun _ _ => Classical.propDecidable _; rw [List.perm_iff_count]; intro a; simp only [List.count_append, List.count_cons, List.count_nil]; ac_rfl) ?_
                refine gr_nx rfl rfl rfl (nx_call Tryd.en46 rfl (put_cc _ _ hRd (by simp only; omega) n q' pq hq3 hho hqs)) ?_; rintro v94 H' L' hle ⟨ob3, ot3, rfl, hpt1, hpt2, rfl, rfl⟩; refine ⟨trivial, ?_⟩
                refine gr_nil ?_
                refine gk_then ?_
                refine gc_cond rfl (fun hcR21 => ?_) (fun hcR21 => ?_)
                · have hd3 : q'.depth = depthOf sx q'.preds := of_decide_eq_true hcR21
                  obtain ⟨h1, h2⟩ := hpt1 hd3
                  have hR3 := hRd.put hho (has_dropped _ _) hqs h1 h2
                  obtain ⟨s3, hs3⟩ : ∃ s3 : DSet, (⟨sx.ops ++ [(n, q')], sx.wait.filter fun p => !(p.1 == n)⟩ : DSet) = s3 := ⟨_, rfl⟩
                  have h3l : s3.ops.length = sx.ops.length + 1 ∧ s3.wait.length < sx.wait.length := by rw [← hs3]; exact ⟨by simp, hfl⟩
                  rw [hs3] at hR3
                  refine gc_seqr [(.mv, 0), (.mv, 1), (.nm, 2), (.nm, 3), (.mv, 4)] rfl ?_
                  refine gr_rd rfl rfl rfl (rd_move rfl) ?_
                  refine gr_rd rfl rfl rfl (rd_loadA Tryd.ta34 rfl (Cells.own (l := encId n) (T := 34) (z := (0, 0)) (by simp [baseL])) (Seg.all _) (encId_length _)) ?_
                  refine gr_nx rfl rfl rfl (nx_sliceA1 Tryd.underlying29 Tryd.sizeOf34 Tryd.zeroValue34 rfl rfl rfl (by first | exact encId_length _ | exact encOp_length _ _ | exact encDraft_length _ | rfl | simp) rfl) ?_; rintro _ _ _ _ ⟨b97, rfl, rfl, rfl⟩; refine ⟨trivial, ?_⟩
                  refine gr_nx rfl rfl rfl (nx_append (m := 1) Tryd.app29_29 rfl rfl hO (by repeat (first | exact Pick.here | exact Pick.one | apply Pick.there | apply Pick.app)) (src_slice (b := b97) (o := 0) (l := encId n) (m := 1) (by simp) (encId_ones _) (fun h => by cases h) (fun _ _ => ⟨rfl, Cells.own List.mem_cons_self, Seg.all _⟩)) (by omega) (by omega)) ?_; rintro v98 H' L' hle ⟨C3, hO3, _, rfl, rfl⟩; refine ⟨trivial, ?_⟩
                  refine gr_rd rfl rfl rfl (rd_assign rfl) ?_
                  refine gr_nil ?_
                  refine gk_inBlock ?_
                  refine gk_then ?_
                  refine gc_seq ?_
                  refine gc_seq ?_
                  refine gc_seqr [(.mv, 0)] rfl ?_
                  refine gr_rd rfl rfl rfl (rd_loadA Tryd.ta34 rfl (Cells.own (l := encId n) (T := 34) (z := (0, 0)) (by simp [baseL])) (Seg.all _) (encId_length _)) ?_
                  refine gr_nil ?_
                  refine gk_then ?_
                  refine gc_seqr [(.nm, 0), (.nm, 1)] rfl ?_
                  refine gr_nx rfl rfl rfl (nx_alloc Tryd.zeroValue34 rfl) ?_; rintro _ _ _ _ ⟨b12n, rfl, rfl, rfl⟩; refine ⟨trivial, ?_⟩
                  refine gr_nx0 rfl rfl (nx_store (vs := encId n) Tryd.sizeOf34 rfl rfl rfl (encId_length _) (by repeat (first | exact Upd.here | exact Upd.appl (by assumption) | apply Upd.there | apply Upd.app)) (by simp) (encId_ones _)) ?_; rintro _ _ _ _ ⟨rfl, rfl, rfl⟩; refine ⟨trivial, ?_⟩
                  rw [wr_all (by simp)]
                  refine gr_nil ?_
                  refine gk_then ?_
                  refine gc_seqr [(.mv, 0), (.nm, 1), (.mv, 2), (.mv, 3), (.mv, 4), (.nm, 5), (.mv, 6)] rfl ?_
                  refine gr_rd rfl rfl rfl (rd_move rfl) ?_
                  first
                    | refine gr_perm (L' := ((b, .cells [.map (some bo), .map (some bw), .map (some bt)].toArray 83 (0, 0)) :: (bo, ob3) :: (bw, ow3) :: (bt, ot3) :: ((b12n, .cells (encId n).toArray 34 (0, 0)) :: (b97, .cells (encId n).toArray 34 (0, 0)) :: (b14, .cells (encOp q' pq).toArray 38 (0, 0)) :: (b12', .cells (encId n).toArray 34 (0, 0)) :: (C3 ++ L)))) (by haveI : DecidableEq (Nat × Obj) := fun _ _ => Classical.propDecidable _; rw [List.perm_iff_count]; intro a; simp only [List.count_append, List.count_cons, List.count_nil]; ac_rfl) ?_
                    | refine gr_perm (L' := ((b, .cells [.map (some bo), .map (some bw), .map (some bt)].toArray 83 (0, 0)) :: (bo, ob3) :: (bw, ow3) :: (bt, ot3) :: ((b12n, .cells (encId n).toArray 34 (0, 0)) :: (b14, .cells (encOp q' pq).toArray 38 (0, 0)) :: (b12', .cells (encId n).toArray 34 (0, 0)) :: (C ++ L)))) (by haveI : DecidableEq (Nat × Obj) := fun _ _ => Classical.propDecidable _; rw [List.perm_iff_count]; intro a; simp only [List.count_append, List.count_cons, List.count_nil]; ac_rfl) ?_
                  refine gr_nx rfl rfl rfl (nx_call Tryd.en47 rfl (ready_cc _ _ hR3 (by omega))) ?_; rintro v77 H' L' hle ⟨rfl, rfl, rfl⟩; refine ⟨trivial, ?_⟩
                  refine gr_rd rfl rfl rfl (rd_move rfl) ?_
                  refine gr_rd rfl rfl rfl (rd_extract rfl rfl) ?_
                  refine gr_rd rfl rfl rfl (rd_extract rfl rfl) ?_
                  refine gr_nx0 rfl rfl (nx_store (vs := encId ((readyOf s3).getD Nm.zero)) Tryd.sizeOf34 rfl rfl rfl (encId_length _) (by repeat (first | exact Upd.here | exact Upd.appl (by assumption) | apply Upd.there | apply Upd.app)) (by simp) (encId_ones _)) ?_; rintro _ _ _ _ ⟨rfl, rfl, rfl⟩; refine ⟨trivial, ?_⟩
                  rw [wr_all (by simp)]
                  refine gr_rd rfl rfl rfl (rd_assign rfl) ?_
                  refine gr_nil ?_
                  first
                    | (refine gk_perm (L' := ([(b97, .cells (encId n).toArray 34 (0, 0)), (b14, .cells (encOp q' pq).toArray 38 (0, 0)), (b12', .cells (encId n).toArray 34 (0, 0))]) ++ ((b12n, .cells (encId ((readyOf s3).getD Nm.zero)).toArray 34 (0, 0)) :: (C3 ++ ((b, .cells [.map (some bo), .map (some bw), .map (some bt)].toArray 83 (0, 0)) :: (bo, ob3) :: (bw, ow3) :: (bt, ot3) :: L)))) (by haveI : DecidableEq (Nat × Obj) := fun _ _ => Classical.propDecidable _; rw [List.perm_iff_count]; intro a; simp only [List.count_append, List.count_cons, List.count_nil]; ac_rfl) ?_
                       refine gk_drop (L' := ((b12n, .cells (encId ((readyOf s3).getD Nm.zero)).toArray 34 (0, 0)) :: (C3 ++ ((b, .cells [.map (some bo), .map (some bw), .map (some bt)].toArray 83 (0, 0)) :: (bo, ob3) :: (bw, ow3) :: (bt, ot3) :: L)))) (List.sublist_append_right _ _) ?_
                       refine gk_round ⟨k', s3, out ++ [n], ob3, ow3, ot3, C3, v98, b12n⟩ ?_ ⟨hH3, rfl, hR3, by simpa using hO3, by simp only; omega, by simp only [List.length_append, List.length_cons, List.length_nil]; omega, by simp only; omega, ?_⟩ (by repeat (first | exact Subs.nil | refine Subs.cons rfl ?_))
                       · show s3.wait.length < sx.wait.length
                         omega
                       · rw [← hset, hsn, if_pos hd3, hs3])
                    | (refine gk_perm (L' := ([(b14, .cells (encOp q' pq).toArray 38 (0, 0)), (b12', .cells (encId n).toArray 34 (0, 0))]) ++ ((b12n, .cells (encId ((readyOf s3).getD Nm.zero)).toArray 34 (0, 0)) :: (C ++ ((b, .cells [.map (some bo), .map (some bw), .map (some bt)].toArray 83 (0, 0)) :: (bo, ob3) :: (bw, ow3) :: (bt, ot3) :: L)))) (by haveI : DecidableEq (Nat × Obj) := fun _ _ => Classical.propDecidable _; rw [List.perm_iff_count]; intro a; simp only [List.count_append, List.count_cons, List.count_nil]; ac_rfl) ?_
                       refine gk_drop (L' := ((b12n, .cells (encId ((readyOf s3).getD Nm.zero)).toArray 34 (0, 0)) :: (C ++ ((b, .cells [.map (some bo), .map (some bw), .map (some bt)].toArray 83 (0, 0)) :: (bo, ob3) :: (bw, ow3) :: (bt, ot3) :: L)))) (List.sublist_append_right _ _) ?_
                       refine gk_round ⟨k', s3, out, ob3, ow3, ot3, C, vo, b12n⟩ ?_ ⟨hH3, rfl, hR3, hO, by simp only; omega, by simp only; omega, by simp only; omega, ?_⟩ (by repeat (first | exact Subs.nil | refine Subs.cons rfl ?_))
                       · show s3.wait.length < sx.wait.length
                         omega
                       · rw [← hset, hsn, if_neg hd3, hs3])
                · have hd3 : ¬ q'.depth = depthOf sx q'.preds := of_decide_eq_false hcR21
                  obtain ⟨rfl, rfl⟩ := hpt2 hd3
                  have hR3 := hRd
                  obtain ⟨s3, hs3⟩ : ∃ s3 : DSet, (⟨sx.ops, sx.wait.filter fun p => !(p.1 == n)⟩ : DSet) = s3 := ⟨_, rfl⟩
                  have h3l : s3.ops.length = sx.ops.length ∧ s3.wait.length < sx.wait.length := by rw [← hs3]; exact ⟨rfl, hfl⟩
                  rw [hs3] at hR3
                  refine gc_skip ?_
                  refine gk_inBlock ?_
                  refine gk_then ?_
                  refine gc_seq ?_
                  refine gc_seq ?_
                  refine gc_seqr [(.mv, 0)] rfl ?_
                  refine gr_rd rfl rfl rfl (rd_loadA Tryd.ta34 rfl (Cells.own (l := encId n) (T := 34) (z := (0, 0)) (by simp [baseL])) (Seg.all _) (encId_length _)) ?_
                  refine gr_nil ?_
                  refine gk_then ?_
                  refine gc_seqr [(.nm, 0), (.nm, 1)] rfl ?_
                  refine gr_nx rfl rfl rfl (nx_alloc Tryd.zeroValue34 rfl) ?_; rintro _ _ _ _ ⟨b12n, rfl, rfl, rfl⟩; refine ⟨trivial, ?_⟩
                  refine gr_nx0 rfl rfl (nx_store (vs := encId n) Tryd.sizeOf34 rfl rfl rfl (encId_length _) (by repeat (first | exact Upd.here | exact Upd.appl (by assumption) | apply Upd.there | apply Upd.app)) (by simp) (encId_ones _)) ?_; rintro _ _ _ _ ⟨rfl, rfl, rfl⟩; refine ⟨trivial, ?_⟩
                  rw [wr_all (by simp)]
                  refine gr_nil ?_
                  refine gk_then ?_
                  refine gc_seqr [(.mv, 0), (.nm, 1), (.mv, 2), (.mv, 3), (.mv, 4), (.nm, 5), (.mv, 6)] rfl ?_
                  refine gr_rd rfl rfl rfl (rd_move rfl) ?_
                  first
                    | refine gr_perm (L' := ((b, .cells [.map (some bo), .map (some bw), .map (some bt)].toArray 83 (0, 0)) :: (bo, ob3) :: (bw, ow3) :: (bt, ot3) :: ((b12n, .cells (encId n).toArray 34 (0, 0)) :: (b97, .cells (encId n).toArray 34 (0, 0)) :: (b14, .cells (encOp q' pq).toArray 38 (0, 0)) :: (b12', .cells (encId n).toArray 34 (0, 0)) :: (C3 ++ L)))) (by haveI : DecidableEq (Nat × Obj) := fun _ _ => Classical.propDecidable _; rw [List.perm_iff_count]; intro a; simp only [List.count_append, List.count_cons, List.count_nil]; ac_rfl) ?_
                    | refine gr_perm (L' := ((b, .cells [.map (some bo), .map (some bw), .map (some bt)].toArray 83 (0, 0)) :: (bo, ob3) :: (bw, ow3) :: (bt, ot3) :: ((b12n, .cells (encId n).toArray 34 (0, 0)) :: (b14, .cells (encOp q' pq).toArray 38 (0, 0)) :: (b12', .cells (encId n).toArray 34 (0, 0)) :: (C ++ L)))) (by haveI : DecidableEq (Nat × Obj) := fun _ _ => Classical.propDecidable _; rw [List.perm_iff_count]; intro a; simp only [List.count_append, List.count_cons, List.count_nil]; ac_rfl) ?_
                  refine gr_nx rfl rfl rfl (nx_call Tryd.en47 rfl (ready_cc _ _ hR3 (by omega))) ?_; rintro v77 H' L' hle ⟨rfl, rfl, rfl⟩; refine ⟨trivial, ?_⟩
                  refine gr_rd rfl rfl rfl (rd_move rfl) ?_
                  refine gr_rd rfl rfl rfl (rd_extract rfl rfl) ?_
                  refine gr_rd rfl rfl rfl (rd_extract rfl rfl) ?_
                  refine gr_nx0 rfl rfl (nx_store (vs := encId ((readyOf s3).getD Nm.zero)) Tryd.sizeOf34 rfl rfl rfl (encId_length _) (by repeat (first | exact Upd.here | exact Upd.appl (by assumption) | apply Upd.there | apply Upd.app)) (by simp) (encId_ones _)) ?_; rintro _ _ _ _ ⟨rfl, rfl, rfl⟩; refine ⟨trivial, ?_⟩
                  rw [wr_all (by simp)]
                  refine gr_rd rfl rfl rfl (rd_assign rfl) ?_
                  refine gr_nil ?_
                  first
                    | (refine gk_perm (L' := ([(b97, .cells (encId n).toArray 34 (0, 0)), (b14, .cells (encOp q' pq).toArray 38 (0, 0)), (b12', .cells (encId n).toArray 34 (0, 0))]) ++ ((b12n, .cells (encId ((readyOf s3).getD Nm.zero)).toArray 34 (0, 0)) :: (C3 ++ ((b, .cells [.map (some bo), .map (some bw), .map (some bt)].toArray 83 (0, 0)) :: (bo, ob3) :: (bw, ow3) :: (bt, ot3) :: L)))) (by haveI : DecidableEq (Nat × Obj) := fun _ _ => Classical.propDecidable _; rw [List.perm_iff_count]; intro a; simp only [List.count_append, List.count_cons, List.count_nil]; ac_rfl) ?_
                       refine gk_drop (L' := ((b12n, .cells (encId ((readyOf s3).getD Nm.zero)).toArray 34 (0, 0)) :: (C3 ++ ((b, .cells [.map (some bo), .map (some bw), .map (some bt)].toArray 83 (0, 0)) :: (bo, ob3) :: (bw, ow3) :: (bt, ot3) :: L)))) (List.sublist_append_right _ _) ?_
                       refine gk_round ⟨k', s3, out ++ [n], ob3, ow3, ot3, C3, v98, b12n⟩ ?_ ⟨hH3, rfl, hR3, by simpa using hO3, by simp only; omega, by simp only [List.length_append, List.length_cons, List.length_nil]; omega, by simp only; omega, ?_⟩ (by repeat (first | exact Subs.nil | refine Subs.cons rfl ?_))
                       · show s3.wait.length < sx.wait.length
                         omega
                       · rw [← hset, hsn, if_pos hd3, hs3])
                    | (refine gk_perm (L' := ([(b14, .cells (encOp q' pq).toArray 38 (0, 0)), (b12', .cells (encId n).toArray 34 (0, 0))]) ++ ((b12n, .cells (encId ((readyOf s3).getD Nm.zero)).toArray 34 (0, 0)) :: (C ++ ((b, .cells [.map (some bo), .map (some bw), .map (some bt)].toArray 83 (0, 0)) :: (bo, ob3) :: (bw, ow3) :: (bt, ot3) :: L)))) (by haveI : DecidableEq (Nat × Obj) := fun _ _ => Classical.propDecidable _; rw [List.perm_iff_count]; intro a; simp only [List.count_append, List.count_cons, List.count_nil]; ac_rfl) ?_
                       refine gk_drop (L' := ((b12n, .cells (encId ((readyOf s3).getD Nm.zero)).toArray 34 (0, 0)) :: (C ++ ((b, .cells [.map (some bo), .map (some bw), .map (some bt)].toArray 83 (0, 0)) :: (bo, ob3) :: (bw, ow3) :: (bt, ot3) :: L)))) (List.sublist_append_right _ _) ?_
                       refine gk_round ⟨k', s3, out, ob3, ow3, ot3, C, vo, b12n⟩ ?_ ⟨hH3, rfl, hR3, hO, by simp only; omega, by simp only; omega, by simp only; omega, ?_⟩ (by repeat (first | exact Subs.nil | refine Subs.cons rfl ?_))
                       · show s3.wait.length < sx.wait.length
                         omega
                       · rw [← hset, hsn, if_neg hd3, hs3])
              · have hn : readyOf sx = none := by simpa using hcR17
                have hfin := settle_done (k := k) (out := out) hRx.ndw hn
                rw [hfin] at hset
                rw [← hset] at ht
                refine gc_exit ?_
                refine gk_exit_then ?_
                refine gk_exit_then ?_
                refine gk_here ?_
                refine gk_then ?_
                refine gc_seq ?_
                refine gc_seqr [(.mv, 0), (.mv, 1), (.mv, 2)] rfl ?_
                refine gr_rd rfl rfl rfl (rd_move rfl) ?_
                refine gr_rd rfl rfl rfl (rd_assign rfl) ?_
                refine gr_rd rfl rfl rfl (rd_assign rfl) ?_
                refine gr_nil ?_
                refine gk_then ?_
                refine gc_ret ?_
                refine gk_drop (L' := C ++ ((b, .cells [.map (some bo), .map (some bw), .map (some bt)].toArray 83 (0, 0)) :: (bo, ob2) :: (bw, ow2) :: (bt, ot2) :: L)) (by repeat (first | exact List.Sublist.refl _ | exact List.nil_sublist _ | apply List.Sublist.cons_cons | apply List.Sublist.cons | refine List.Sublist.trans ?_ (List.sublist_append_right _ _))) ?_
                refine gk_result (L' := C ++ ((b, .cells [.map (some bo), .map (some bw), .map (some bt)].toArray 83 (0, 0)) :: (bo, ob2) :: (bw, ow2) :: (bt, ot2) :: L)) (.inl rfl) _ (res2 rfl rfl rfl) (List.Sublist.refl _) (by first | exact Gh.le_refl _ | assumption | exact Gh.le_trans (by assumption) (by assumption)) ?_
                exact ⟨ob2, ow2, ot2, C, vo, by rw [ht]; exact hRx, by rw [ht]; exact hO, by rw [ht], rfl⟩
end Go.Proofs.YtfhldfjknagidaaDoor
