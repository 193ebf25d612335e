/-
  Walks: the program's set answers; a nil set.
-/
import Derived.Test.YtfhldfjknagidaaDoorVKs20
set_option linter.unusedSimpArgs false
set_option linter.unusedVariables false
set_option linter.unnecessarySimpa false
set_option linter.all false
namespace Go.Proofs.YtfhldfjknagidaaDoor
open Go.VK Go.Tr
set_option maxRecDepth 20000
attribute [local irreducible] Go.Tr.sha
theorem rising_filter (p : Nm → Bool) (l : List Nm) : (rising l).filter p = rising (l.filter p) :=
  sorted_eq (((rising_perm l).filter p).trans (rising_perm _).symm) ((rising_sorted l).sublist List.filter_sublist) (rising_sorted _)
theorem heads_names (s : DSet) : heads s = (names s).filter fun n => !behind s n := by rw [heads, names, rising_filter]
theorem cnt_zero (s : DSet) (n : Nm) : (((cnt s.ops n : Nat) : Int) == 0) = !behind s n := by
  rw [behind_cnt]
  by_cases h : 0 < cnt s.ops n
  · rw [decide_eq_true h]; simp; omega
  · rw [decide_eq_false h]; simp; omega

set_option maxHeartbeats 1000000 in
theorem get_cc (H : Gh) (L : Chunks) {b bo bw bt : Nat} {s : DSet} {ob ow ot : Obj} (hV : DView H L b bo bw bt s ob ow ot) (hsm : ∀ p ∈ s.ops, p.2.preds.length ≤ 32) (n : Nm) :
    CC Tryd.prog 15 #[pt b 0, ag (encId n)] H L (fun v H' L' => ∃ C u, v = .tuple #[ag (encOp ((Tr.get s.ops n).getD zeroOp) u), i64 (if has s.ops n then 0 else 5)] ∧ Ow 34 32 C u ((Tr.get s.ops n).getD zeroOp).preds.length (((Tr.get s.ops n).getD zeroOp).preds.flatMap encId) ∧ H = H' ∧ C ++ L = L') := by
  obtain ⟨m, hM, hmn, hlk⟩ := look_op hV.ops
  have hmo := hV.mo
  refine cc_of Tryd.func15 rfl (Nat.le_of_ble_eq_true rfl) ?_
  simp only [Tryd.ntmps15]
  refine gc_seq ?_
  refine gc_seqr [(.nm, 0), (.nm, 1), (.mv, 2)] rfl ?_
  refine gr_nx rfl rfl rfl (nx_box rfl rfl) ?_; rintro _ _ _ _ ⟨b3, rfl, rfl, rfl⟩; refine ⟨trivial, ?_⟩
  refine gr_nx rfl rfl rfl (nx_alloc Tryd.zeroValue38 rfl) ?_; rintro _ _ _ _ ⟨b4, rfl, rfl, rfl⟩; refine ⟨trivial, ?_⟩
  refine gr_rd rfl rfl rfl (rd_assign rfl) ?_
  refine gr_nil ?_
  refine gk_then ?_
  refine gc_seq ?_
  refine gc_seq ?_
  refine gc_seqr [(.mv, 0), (.mv, 1)] rfl ?_
  refine gr_rd rfl rfl rfl (rd_move rfl) ?_
  refine gr_rd rfl rfl rfl (rd_ptrNil Tryd.underlying27 rfl rfl) ?_
  refine gr_nil ?_
  refine gk_then ?_
  refine gc_no rfl ?_
  refine gc_skip ?_
  refine gk_then ?_
  refine gc_seq ?_
  refine gc_draw Tryd.mixed [(.mv, 0), (.mv, 1), (.mv, 2), (.mv, 3), (.mv, 4), (.mv, 5), (.mv, 6), (.mv, 7), (.mv, 8), (.nm, 9), (.nm, 10), (.mv, 11)] (by decide +kernel) _ (List.Sublist.refl _) ?_
  refine gr_rd rfl rfl rfl (rd_move rfl) ?_
  refine gr_rd rfl rfl rfl (rd_nilCheck rfl) ?_
  refine gr_rd rfl rfl rfl (rd_fieldAddr Tryd.fa83_0 rfl) ?_
  refine gr_rd rfl rfl rfl (rd_load1 Tryd.to80 rfl (hV.cells.mono (Gh.le_refl _) (by intro x hx; simp [baseL, hx])) rfl) ?_
  refine gr_rd rfl rfl rfl (rd_loadA Tryd.ta34 rfl (Cells.own (l := encId n) (T := 34) (z := (0, 0)) (by simp [baseL])) (Seg.all _) (encId_length _)) ?_
  refine gr_rd rfl rfl rfl (rd_lookupOk Tryd.tm Tryd.zop rfl rfl (by simp [baseL, hmo]) hM) ?_
  obtain ⟨q, pq, hq1, hq2, hq3, hq4⟩ := hlk n
  rw [hq1, hq2]
  have hgq : ((Tr.get s.ops n).getD zeroOp) = q := by
    rcases hq4 with h | ⟨h, h2, _⟩
    · rw [h]; rfl
    · rw [h, h2]; rfl
  have hql : q.preds.length ≤ 32 := by
    rcases hq4 with h | ⟨h, h2, _⟩
    · exact hsm _ (get_mem h)
    · rw [h2]; exact Nat.zero_le _
  refine gr_rd rfl rfl rfl (rd_move rfl) ?_
  refine gr_rd rfl rfl rfl (rd_extract rfl rfl) ?_
  refine gr_rd rfl rfl rfl (rd_extract rfl rfl) ?_
  refine gr_nx rfl rfl rfl (nx_alloc Tryd.zeroValue38 rfl) ?_; rintro _ _ _ _ ⟨b6, rfl, rfl, rfl⟩; refine ⟨⟨(by first | exact Gh.le_refl _ | assumption | exact Gh.le_trans (by assumption) (by assumption)), (by repeat (first | exact List.Sublist.refl _ | exact List.nil_sublist _ | apply List.Sublist.cons_cons | apply List.Sublist.cons | apply List.Sublist.append (List.Sublist.refl _) | refine List.Sublist.trans ?_ (List.sublist_append_right _ _)))⟩, ?_⟩
  refine gr_nx0 rfl rfl (nx_store (vs := encOp q pq) Tryd.sizeOf38 rfl rfl rfl (encOp_length _ _) (by repeat (first | exact Upd.here | exact Upd.appl (by assumption) | apply Upd.there | apply Upd.app)) (by simp) (encOp_ones _ hq3.one)) ?_; rintro _ _ _ _ ⟨rfl, rfl, rfl⟩; refine ⟨⟨(by first | exact Gh.le_refl _ | assumption | exact Gh.le_trans (by assumption) (by assumption)), (by repeat (first | exact List.Sublist.refl _ | exact List.nil_sublist _ | apply List.Sublist.cons_cons | apply List.Sublist.cons | apply List.Sublist.append (List.Sublist.refl _) | refine List.Sublist.trans ?_ (List.sublist_append_right _ _)))⟩, ?_⟩
  rw [wr_all (by simp)]
  refine gr_rd rfl rfl rfl (rd_assign rfl) ?_
  refine gr_nil ?_
  refine gk_then ?_
  refine gc_seq ?_
  refine gc_seq ?_
  refine gc_seqr [(.mv, 0), (.mv, 1)] rfl ?_
  refine gr_rd rfl rfl rfl (rd_move rfl) ?_
  refine gr_rd rfl rfl rfl (rd_not rfl) ?_
  refine gr_nil ?_
  refine gk_then ?_
  refine gc_cond rfl (fun hcR4 => ?_) (fun hcR4 => ?_)
  · have hh : has s.ops n = false := by simpa using hcR4
    have hqz : q = zeroOp := by
      rcases hq4 with h | ⟨h, h2, _⟩
      · have h3 := get_isSome (l := s.ops) (n := n)
        rw [h, hh] at h3; cases h3
      · exact h2
    refine gc_seq ?_
    refine gc_seqr [(.mv, 0), (.nm, 1), (.mv, 2)] rfl ?_
    refine gr_rd rfl rfl rfl (rd_build Tryd.bt38 (ps := []) (l := encOp zeroOp nilS) rfl rfl) ?_
    refine gr_nx0 rfl rfl (nx_store (vs := encOp zeroOp nilS) Tryd.sizeOf38 rfl rfl rfl (encOp_length _ _) (by repeat (first | exact Upd.here | exact Upd.appl (by assumption) | apply Upd.there | apply Upd.app)) (by simp) (encOp_ones _ rfl)) ?_; rintro _ _ _ _ ⟨rfl, rfl, rfl⟩; refine ⟨trivial, ?_⟩
    rw [wr_all (by simp)]
    refine gr_rd rfl rfl rfl (rd_assign rfl) ?_
    refine gr_nil ?_
    refine gk_then ?_
    refine gc_ret ?_
    refine gk_ret_then ?_
    refine gk_result (L' := [] ++ L) (.inl rfl) _ (resC2 rfl rfl Tryd.ta38 (Cells.own (l := encOp zeroOp nilS) (T := 38) (z := (0, 0)) (by simp )) (Seg.all _) (encOp_length _ _) rfl) (by repeat (first | exact List.Sublist.refl _ | exact List.nil_sublist _ | apply List.Sublist.cons_cons | apply List.Sublist.cons | refine List.Sublist.trans ?_ (List.sublist_append_right _ _))) (Gh.le_refl _) ?_
    exact ⟨[], nilS, by rw [hgq, hqz, hh]; rfl, by rw [hgq, hqz]; exact Ow.nil, rfl, rfl⟩
  · have hh : has s.ops n = true := by simpa using hcR4
    refine gc_skip ?_
    refine gk_then ?_
    refine gc_seq ?_
    refine gc_seqr [(.mv, 0), (.nm, 1), (.nm, 2), (.mv, 3)] rfl ?_
    refine gr_rd rfl rfl rfl (rd_loadA Tryd.ta38 rfl (Cells.own (l := encOp q pq) (T := 38) (z := (0, 0)) (by simp [baseL])) (Seg.all _) (encOp_length _ _)) ?_
    refine gr_nx rfl rfl rfl (nx_call Tryd.en45 rfl (clone_cc _ _ q pq hq3.any (by omega))) ?_; rintro v24 H' L' hle ⟨C, u, rfl, hO, rfl, rfl⟩; refine ⟨trivial, ?_⟩
    refine gr_nx0 rfl rfl (nx_store (vs := encOp q u) Tryd.sizeOf38 rfl rfl rfl (encOp_length _ _) (by repeat (first | exact Upd.here | exact Upd.appl (by assumption) | apply Upd.there | apply Upd.app)) (by simp) (encOp_ones _ hO.one)) ?_; rintro _ _ _ _ ⟨rfl, rfl, rfl⟩; refine ⟨trivial, ?_⟩
    rw [wr_all (by simp)]
    refine gr_rd rfl rfl rfl (rd_assign rfl) ?_
    refine gr_nil ?_
    refine gk_then ?_
    refine gc_ret ?_
    refine gk_result (L' := C ++ L) (.inl rfl) _ (resC2 rfl rfl Tryd.ta38 (Cells.own (l := encOp q u) (T := 38) (z := (0, 0)) (by simp )) (Seg.all _) (encOp_length _ _) rfl) (by repeat (first | exact List.Sublist.refl _ | apply List.Sublist.cons_cons | apply List.Sublist.cons | apply List.Sublist.append (List.Sublist.refl _) | refine List.Sublist.trans ?_ (List.sublist_append_right _ _))) (Gh.le_refl _) ?_
    exact ⟨C, u, by rw [hgq, hh]; rfl, by rw [hgq]; exact hO, rfl, rfl⟩
set_option maxHeartbeats 1000000 in
theorem heads_cc (H : Gh) (L : Chunks) {b bo bw bt : Nat} {s : DSet} {ob ow ot : Obj} (hR : DRep H s ob ow ot) (hz : s.ops.length < 16777216) :
    CC Tryd.prog 21 #[pt b 0] H ((b, .cells [.map (some bo), .map (some bw), .map (some bt)].toArray 83 (0, 0)) :: (bo, ob) :: (bw, ow) :: (bt, ot) :: L) (fun u H' L' => ∃ C, Ow 34 32 C u (heads s).length ((heads s).flatMap encId) ∧ H = H' ∧ C ++ ((b, .cells [.map (some bo), .map (some bw), .map (some bt)].toArray 83 (0, 0)) :: (bo, ob) :: (bw, ow) :: (bt, ot) :: L) = L') := by
  have hnl : (names s).length = s.ops.length := by rw [names, rising_length, List.length_map]
  obtain ⟨mt, hMt, hct⟩ := hR.cnt
  refine cc_of Tryd.func21 rfl (Nat.le_of_ble_eq_true rfl) ?_
  simp only [Tryd.ntmps21]
  refine gc_seq ?_
  refine gc_seqr [(.mv, 0)] rfl ?_
  refine gr_rd rfl rfl rfl (rd_assign rfl) ?_
  refine gr_nil ?_
  refine gk_then ?_
  refine gc_seq ?_
  refine gc_seqr [(.mv, 0)] rfl ?_
  refine gr_rd rfl rfl rfl (rd_assign rfl) ?_
  refine gr_nil ?_
  refine gk_then ?_
  refine gc_seq ?_
  refine gc_seq ?_
  refine gc_seqr [(.mv, 0), (.nm, 1), (.mv, 2), (.mv, 3)] rfl ?_
  refine gr_rd rfl rfl rfl (rd_move rfl) ?_
  refine gr_nx rfl rfl rfl (nx_call Tryd.en14 rfl (names_cc _ _ hR hz)) ?_; rintro v7 H' L' hle ⟨Cn, hOn, rfl, rfl⟩; refine ⟨trivial, ?_⟩
  obtain ⟨An, cn, rfl, hcn⟩ := hOn.slice
  obtain ⟨_, bn, on, cn2, ln, hne, hcn2, hnn, hn0, hn1, hn2⟩ := (Ow.slT (H := H) (L := Cn ++ ((b, .cells [.map (some bo), .map (some bw), .map (some bt)].toArray 83 (0, 0)) :: (bo, ob) :: (bw, ow) :: (bt, ot) :: L)) (xs := names s) encId_length hOn rfl (by omega) (by intro x hx; simp [hx]))
  cases hne
  refine gr_rd rfl rfl rfl (rd_lenS Tryd.underlying29 rfl) ?_
  refine gr_rd rfl rfl rfl (rd_move rfl) ?_
  refine gr_nil ?_
  refine gk_then ?_
  refine gc_block ?_
  refine gc_loop (fun t : Nat × Value × Chunks => [(0, pt b 0), (3, t.2.1), (7, .slice An (names s).length cn), (8, i64 (names s).length), (9, i64 t.1)]) (fun t H1 L1 => H = H1 ∧ t.2.2 ++ (Cn ++ ((b, .cells [.map (some bo), .map (some bw), .map (some bt)].toArray 83 (0, 0)) :: (bo, ob) :: (bw, ow) :: (bt, ot) :: L)) = L1 ∧ t.1 ≤ (names s).length ∧ Ow 34 32 t.2.2 t.2.1 (((names s).take t.1).filter fun n => !behind s n).length ((((names s).take t.1).filter fun n => !behind s n).flatMap encId)) (fun t => (names s).length - t.1) ((0, nilS, [])) ?_ (by repeat (first | exact Subs.nil | refine Subs.cons rfl ?_)) ?_
  · exact ⟨rfl, rfl, Nat.zero_le _, Ow.nil⟩
  · rintro ⟨k, vo, C⟩ H1 L1 ⟨rfl, rfl, hk, hO⟩
    simp only at hk hO
    have hfl : (((names s).take k).filter fun n => !behind s n).length ≤ (names s).length := Nat.le_trans (List.length_filter_le _ _) (by simp; omega)
    show GC _ _ _ _ [(0, pt b 0), (3, vo), (7, .slice An (names s).length cn), (8, i64 (names s).length), (9, i64 k)] H (C ++ (Cn ++ ((b, .cells [.map (some bo), .map (some bw), .map (some bt)].toArray 83 (0, 0)) :: (bo, ob) :: (bw, ow) :: (bt, ot) :: L)))
    refine gc_seq ?_
    refine gc_seqr [(.mv, 0)] rfl ?_
    refine gr_rd rfl rfl rfl (rd_lss rfl rfl) ?_
    refine gr_nil ?_
    refine gk_then ?_
    refine gc_seq ?_
    refine gc_cond rfl (fun hc0 => ?_) (fun hc0 => ?_)
    · have hlt : k < (names s).length := by simpa using hc0
      obtain ⟨hAe, hca, hsa⟩ := ids_at2 (i := (k : Int)) hn1 hn2 hlt rfl
      have hca1 : Cells H (C ++ (Cn ++ ((b, .cells [.map (some bo), .map (some bw), .map (some bt)].toArray 83 (0, 0)) :: (bo, ob) :: (bw, ow) :: (bt, ot) :: L))) bn ln := hca.mono (Gh.le_refl _) (fun x hx => List.mem_append_right _ hx)
      refine gc_skip ?_
      refine gk_then ?_
      refine gc_seq ?_
      refine gc_block ?_
      refine gc_seq ?_
      refine gc_seqr [(.mv, 0), (.mv, 1), (.nm, 2), (.nm, 3)] rfl ?_
      refine gr_rd rfl rfl rfl (rd_indexS Tryd.underlying29 Tryd.sizeOf34 rfl rfl hAe (by omega) (by omega)) ?_
      refine gr_rd rfl rfl rfl (rd_loadA Tryd.ta34 rfl hca1 hsa (encId_length _)) ?_
      refine gr_nx rfl rfl rfl (nx_alloc Tryd.zeroValue34 rfl) ?_; rintro _ _ _ _ ⟨b5, rfl, rfl, rfl⟩; refine ⟨trivial, ?_⟩
      refine gr_nx0 rfl rfl (nx_store (vs := encId ((names s).getD k Nm.zero)) Tryd.sizeOf34 rfl rfl rfl (encId_length _) (by repeat (first | exact Upd.here | exact Upd.appl (by assumption) | apply Upd.there | apply Upd.app)) (by simp) (encId_ones _)) ?_; rintro _ _ _ _ ⟨rfl, rfl, rfl⟩; refine ⟨trivial, ?_⟩
      rw [wr_all (by simp)]
      refine gr_nil ?_
      refine gk_then ?_
      refine gc_seq ?_
      refine gc_draw Tryd.mixed [(.mv, 0), (.mv, 1), (.mv, 2), (.mv, 3), (.mv, 4), (.mv, 5), (.mv, 6)] (by decide +kernel) _ (List.Sublist.refl _) ?_
      refine gr_rd rfl rfl rfl (rd_move rfl) ?_
      refine gr_rd rfl rfl rfl (rd_nilCheck rfl) ?_
      refine gr_rd rfl rfl rfl (rd_fieldAddr Tryd.fa83_2 rfl) ?_
      refine gr_rd rfl rfl rfl (rd_load1 Tryd.to81 rfl (Cells.own (l := [.map (some bo), .map (some bw), .map (some bt)]) (T := 83) (z := (0, 0)) (by simp [baseL])) rfl) ?_
      refine gr_rd rfl rfl rfl (rd_loadA Tryd.ta34 rfl (Cells.own (l := encId ((names s).getD k Nm.zero)) (T := 34) (z := (0, 0)) (by simp [baseL])) (Seg.all _) (encId_length _)) ?_
      refine gr_rd rfl rfl rfl (rd_lookup Tryd.tmi Tryd.zint rfl rfl (by simp [baseL]) hMt) ?_
      rw [hct]
      refine gr_rd rfl rfl rfl (rd_eql rfl rfl) ?_
      refine gr_nil ?_
      refine gk_then ?_
      refine gc_cond rfl (fun hcR5 => ?_) (fun hcR5 => ?_)
      · skip
        refine gc_seqr [(.mv, 0), (.mv, 1), (.nm, 2), (.nm, 3), (.mv, 4)] rfl ?_
        refine gr_rd rfl rfl rfl (rd_move rfl) ?_
        refine gr_rd rfl rfl rfl (rd_loadA Tryd.ta34 rfl (Cells.own (l := encId ((names s).getD k Nm.zero)) (T := 34) (z := (0, 0)) (by simp [baseL])) (Seg.all _) (encId_length _)) ?_
        refine gr_nx rfl rfl rfl (nx_sliceA1 Tryd.underlying29 Tryd.sizeOf34 Tryd.zeroValue34 rfl rfl rfl (by first | exact encId_length _ | exact encOp_length _ _ | exact encDraft_length _ | rfl | simp) rfl) ?_; rintro _ _ _ _ ⟨b22, rfl, rfl, rfl⟩; refine ⟨trivial, ?_⟩
        refine gr_nx rfl rfl rfl (nx_append (m := 1) Tryd.app29_29 rfl rfl hO (by repeat (first | exact Pick.here | exact Pick.one | apply Pick.there | apply Pick.app)) (src_slice (b := b22) (o := 0) (l := encId ((names s).getD k Nm.zero)) (m := 1) (by simp) (encId_ones _) (fun h => by cases h) (fun _ _ => ⟨rfl, Cells.own List.mem_cons_self, Seg.all _⟩)) (by omega) (by omega)) ?_; rintro v23 H' L' hle ⟨C2, hO2, _, rfl, rfl⟩; refine ⟨trivial, ?_⟩
        refine gr_rd rfl rfl rfl (rd_assign rfl) ?_
        refine gr_nil ?_
        refine gk_inBlock ?_
        refine gk_then ?_
        refine gc_seqr [(.mv, 0), (.mv, 1)] rfl ?_
        (first | refine gr_rd rfl rfl rfl (rd_add rfl rfl (IntWalk.i64_in _ (by omega))) ?_ | refine gr_rd rfl rfl rfl (rd_add rfl rfl rfl) ?_)
        refine gr_rd rfl rfl rfl (rd_move rfl) ?_
        refine gr_nil ?_
        first
          | (refine gk_drop (L' := C2 ++ (Cn ++ ((b, .cells [.map (some bo), .map (some bw), .map (some bt)].toArray 83 (0, 0)) :: (bo, ob) :: (bw, ow) :: (bt, ot) :: L))) (by repeat (first | exact List.Sublist.refl _ | apply List.Sublist.append (List.Sublist.refl _) | apply List.Sublist.cons)) ?_
             refine gk_round (k + 1, _, C2) ?_ ?_ (by repeat (first | exact Subs.nil | refine Subs.cons rfl ?_))
             · show (names s).length - (k + 1) < (names s).length - k
               omega
             · refine ⟨rfl, rfl, by simp only; omega, ?_⟩
               simp only
               rw [filter_take _ hlt, if_pos (by rw [← cnt_zero]; exact hcR5)]
               simpa using hO2)
          | (refine gk_drop (L' := C ++ (Cn ++ ((b, .cells [.map (some bo), .map (some bw), .map (some bt)].toArray 83 (0, 0)) :: (bo, ob) :: (bw, ow) :: (bt, ot) :: L))) (by repeat (first | exact List.Sublist.refl _ | apply List.Sublist.append (List.Sublist.refl _) | apply List.Sublist.cons)) ?_
             refine gk_round (k + 1, _, C) ?_ ?_ (by repeat (first | exact Subs.nil | refine Subs.cons rfl ?_))
             · show (names s).length - (k + 1) < (names s).length - k
               omega
             · refine ⟨rfl, rfl, by simp only; omega, ?_⟩
               simp only
               rw [filter_take _ hlt, if_neg (by rw [← cnt_zero, hcR5]; decide), List.append_nil]
               exact hO)
      · skip
        refine gc_skip ?_
        refine gk_inBlock ?_
        refine gk_then ?_
        refine gc_seqr [(.mv, 0), (.mv, 1)] rfl ?_
        (first | refine gr_rd rfl rfl rfl (rd_add rfl rfl (IntWalk.i64_in _ (by omega))) ?_ | refine gr_rd rfl rfl rfl (rd_add rfl rfl rfl) ?_)
        refine gr_rd rfl rfl rfl (rd_move rfl) ?_
        refine gr_nil ?_
        first
          | (refine gk_drop (L' := C2 ++ (Cn ++ ((b, .cells [.map (some bo), .map (some bw), .map (some bt)].toArray 83 (0, 0)) :: (bo, ob) :: (bw, ow) :: (bt, ot) :: L))) (by repeat (first | exact List.Sublist.refl _ | apply List.Sublist.append (List.Sublist.refl _) | apply List.Sublist.cons)) ?_
             refine gk_round (k + 1, _, C2) ?_ ?_ (by repeat (first | exact Subs.nil | refine Subs.cons rfl ?_))
             · show (names s).length - (k + 1) < (names s).length - k
               omega
             · refine ⟨rfl, rfl, by simp only; omega, ?_⟩
               simp only
               rw [filter_take _ hlt, if_pos (by rw [← cnt_zero]; exact hcR5)]
               simpa using hO2)
          | (refine gk_drop (L' := C ++ (Cn ++ ((b, .cells [.map (some bo), .map (some bw), .map (some bt)].toArray 83 (0, 0)) :: (bo, ob) :: (bw, ow) :: (bt, ot) :: L))) (by repeat (first | exact List.Sublist.refl _ | apply List.Sublist.append (List.Sublist.refl _) | apply List.Sublist.cons)) ?_
             refine gk_round (k + 1, _, C) ?_ ?_ (by repeat (first | exact Subs.nil | refine Subs.cons rfl ?_))
             · show (names s).length - (k + 1) < (names s).length - k
               omega
             · refine ⟨rfl, rfl, by simp only; omega, ?_⟩
               simp only
               rw [filter_take _ hlt, if_neg (by rw [← cnt_zero, hcR5]; decide), List.append_nil]
               exact hO)
    · have hge : k = (names s).length := by simp at hc0; omega
      subst hge
      rw [List.take_length, ← heads_names] at hO
      refine gc_exit ?_
      refine gk_exit_then ?_
      refine gk_exit_then ?_
      refine gk_here ?_
      refine gk_then ?_
      refine gc_seq ?_
      refine gc_seqr [(.mv, 0), (.mv, 1)] rfl ?_
      refine gr_rd rfl rfl rfl (rd_move rfl) ?_
      refine gr_rd rfl rfl rfl (rd_assign rfl) ?_
      refine gr_nil ?_
      refine gk_then ?_
      refine gc_ret ?_
      refine gk_result (L' := C ++ ((b, .cells [.map (some bo), .map (some bw), .map (some bt)].toArray 83 (0, 0)) :: (bo, ob) :: (bw, ow) :: (bt, ot) :: L)) (.inl rfl) _ (res1 rfl rfl) (List.Sublist.append (List.Sublist.refl _) (List.sublist_append_right _ _)) (Gh.le_refl _) ?_
      exact ⟨C, hO, rfl, rfl⟩
set_option maxHeartbeats 1000000 in
theorem next_cc (H : Gh) (L : Chunks) {b bo bw bt : Nat} {s : DSet} {ob ow ot : Obj} (hR : DRep H s ob ow ot) (hz : s.ops.length < 16777216) (author : Int) (d : Draft) :
    CC Tryd.prog 26 #[pt b 0, i64 author, ag (encDraft d)] H ((b, .cells [.map (some bo), .map (some bw), .map (some bt)].toArray 83 (0, 0)) :: (bo, ob) :: (bw, ow) :: (bt, ot) :: L) (fun v H' L' => ∃ C pv, v = .tuple #[ag (encOp (next s author d).1 pv), i64 (next s author d).2] ∧ Ow 34 32 C pv (next s author d).1.preds.length ((next s author d).1.preds.flatMap encId) ∧ H = H' ∧ C ++ ((b, .cells [.map (some bo), .map (some bw), .map (some bt)].toArray 83 (0, 0)) :: (bo, ob) :: (bw, ow) :: (bt, ot) :: L) = L') := by
  have hhl := heads_le s
  refine cc_of Tryd.func26 rfl (Nat.le_of_ble_eq_true rfl) ?_
  simp only [Tryd.ntmps26]
  refine gc_seq ?_
  refine gc_seqr [(.nm, 0), (.nm, 1), (.mv, 2)] rfl ?_
  refine gr_nx rfl rfl rfl (nx_box rfl rfl) ?_; rintro _ _ _ _ ⟨b5, rfl, rfl, rfl⟩; refine ⟨trivial, ?_⟩
  refine gr_nx rfl rfl rfl (nx_alloc Tryd.zeroValue38 rfl) ?_; rintro _ _ _ _ ⟨b6, rfl, rfl, rfl⟩; refine ⟨trivial, ?_⟩
  refine gr_rd rfl rfl rfl (rd_assign rfl) ?_
  refine gr_nil ?_
  refine gk_then ?_
  refine gc_seq ?_
  refine gc_seq ?_
  refine gc_seqr [(.mv, 0), (.mv, 1)] rfl ?_
  refine gr_rd rfl rfl rfl (rd_move rfl) ?_
  refine gr_rd rfl rfl rfl (rd_ptrNil Tryd.underlying27 rfl rfl) ?_
  refine gr_nil ?_
  refine gk_then ?_
  refine gc_no rfl ?_
  refine gc_skip ?_
  refine gk_then ?_
  refine gc_seq ?_
  refine gc_seqr [(.mv, 0), (.nm, 1), (.mv, 2)] rfl ?_
  refine gr_rd rfl rfl rfl (rd_move rfl) ?_
  refine gr_perm (L' := ((b, .cells [.map (some bo), .map (some bw), .map (some bt)].toArray 83 (0, 0)) :: (bo, ob) :: (bw, ow) :: (bt, ot) :: ((b6, .cells (encOp zeroOp nilS).toArray 38 (0, 0)) :: (b5, .cells (encDraft d).toArray 36 (0, 0)) :: L))) (by haveI : DecidableEq (Nat × Obj) := fun _ _ => Classical.propDecidable _; rw [List.perm_iff_count]; intro a; simp only [List.count_append, List.count_cons, List.count_nil]; ac_rfl) ?_
  refine gr_nx rfl rfl rfl (nx_call Tryd.en21 rfl (heads_cc _ _ hR hz)) ?_; rintro v14 H' L' hle ⟨C, hC, rfl, rfl⟩; refine ⟨trivial, ?_⟩
  obtain ⟨ah, ch, rfl, hch⟩ := hC.slice
  refine gr_rd rfl rfl rfl (rd_assign rfl) ?_
  refine gr_nil ?_
  refine gk_then ?_
  refine gc_seq ?_
  refine gc_seqr [(.mv, 0), (.mv, 1), (.mv, 2), (.mv, 3), (.nm, 4), (.nm, 5)] rfl ?_
  refine gr_rd rfl rfl rfl (rd_loadA Tryd.ta36 rfl (Cells.own (l := encDraft d) (T := 36) (z := (0, 0)) (by simp [baseL])) (Seg.all _) (encDraft_length _)) ?_
  refine gr_rd rfl rfl rfl (rd_move rfl) ?_
  refine gr_rd rfl rfl rfl (rd_move rfl) ?_
  refine gr_rd rfl rfl rfl (rd_build Tryd.bt38 (ps := [(0, ag (encDraft d)), (1, i64 author), (3, .slice ah (heads s).length ch)]) rfl (fill_op3 (ps := heads s) rfl)) ?_
  refine gr_nx rfl rfl rfl (nx_alloc Tryd.zeroValue38 rfl) ?_; rintro _ _ _ _ ⟨b9, rfl, rfl, rfl⟩; refine ⟨trivial, ?_⟩
  refine gr_nx0 rfl rfl (nx_store (vs := encOp ⟨d, author, 0, heads s⟩ (.slice ah (heads s).length ch)) Tryd.sizeOf38 rfl rfl rfl (encOp_length _ _) (by repeat (first | exact Upd.here | exact Upd.appl (by assumption) | apply Upd.there | apply Upd.app)) (by simp) (encOp_ones _ rfl)) ?_; rintro _ _ _ _ ⟨rfl, rfl, rfl⟩; refine ⟨trivial, ?_⟩
  rw [wr_all (by simp)]
  refine gr_nil ?_
  refine gk_then ?_
  refine gc_seq ?_
  refine gc_seqr [(.mv, 0), (.mv, 1), (.nm, 2), (.mv, 3), (.nm, 4)] rfl ?_
  refine gr_rd rfl rfl rfl (rd_move rfl) ?_
  refine gr_rd rfl rfl rfl (rd_loadA Tryd.ta38 rfl (Cells.own (l := encOp ⟨d, author, 0, heads s⟩ (.slice ah (heads s).length ch)) (T := 38) (z := (0, 0)) (by simp [baseL])) (Seg.all _) (encOp_length _ _)) ?_
  refine gr_nx rfl rfl rfl (nx_call Tryd.en60 rfl (depth_cc _ _ (bo := bo) (bw := bw) (bt := bt) (ob := ob) (ow := ow) (ot := ot) ⟨(Cells.own (l := [.map (some bo), .map (some bw), .map (some bt)]) (T := 83) (z := (0, 0)) (by simp )), by simp, by simp, by simp, hR.ops, hR.wait, hR.cnt⟩ ⟨d, author, 0, heads s⟩ _ (Ow.slT encId_length hC rfl (by omega) (by intro x hx; simp [hx])))) ?_; rintro v21 H' L' hle ⟨rfl, rfl, rfl⟩; refine ⟨trivial, ?_⟩
  refine gr_rd rfl rfl rfl (rd_fieldAddr Tryd.fa38_2 rfl) ?_
  refine gr_nx0 rfl rfl (nx_store (vs := [i64 (depthOf s (heads s))]) Tryd.sizeOf3 rfl rfl rfl (rfl) (by repeat (first | exact Upd.here | exact Upd.appl (by assumption) | apply Upd.there | apply Upd.app)) (by simp) (oneCells_of_all rfl)) ?_; rintro _ _ _ _ ⟨rfl, rfl, rfl⟩; refine ⟨trivial, ?_⟩
  rw [encOp_set_depth]
  refine gr_nil ?_
  refine gk_then ?_
  refine gc_seq ?_
  refine gc_block ?_
  refine gc_seq ?_
  refine gc_seqr [(.mv, 0), (.nm, 1), (.mv, 2), (.mv, 3), (.mv, 4), (.mv, 5), (.mv, 6), (.mv, 7), (.mv, 8), (.mv, 9), (.mv, 10), (.mv, 11)] rfl ?_
  refine gr_rd rfl rfl rfl (rd_loadA Tryd.ta36 rfl (Cells.own (l := encDraft d) (T := 36) (z := (0, 0)) (by simp [baseL])) (Seg.all _) (encDraft_length _)) ?_
  refine gr_nx rfl rfl rfl (nx_call Tryd.en61 rfl (goodDraft_cc _ _ d)) ?_; rintro v25 H' L' hle ⟨rfl, rfl, rfl⟩; refine ⟨trivial, ?_⟩
  refine gr_rd rfl rfl rfl (rd_not rfl) ?_
  refine gr_rd rfl rfl rfl (rd_move rfl) ?_
  refine gr_split rfl (fun hg3 => ?_) (fun hg3 => ?_)
  · skip
    refine gr_no rfl rfl rfl ?_
    refine gr_no rfl rfl rfl ?_
    (first | refine gr_rd rfl rfl rfl (rd_pick_t rfl rfl) ?_ | refine gr_rd rfl rfl rfl (rd_pick_f rfl rfl) ?_)
    refine gr_rd rfl rfl rfl (rd_move rfl) ?_
    refine gr_no rfl rfl rfl ?_
    refine gr_no rfl rfl rfl ?_
    (first | refine gr_rd rfl rfl rfl (rd_pick_t rfl rfl) ?_ | refine gr_rd rfl rfl rfl (rd_pick_f rfl rfl) ?_)
    refine gr_rd rfl rfl rfl (rd_assign rfl) ?_
    refine gr_nil ?_
    refine gk_then ?_
    refine gc_yes rfl ?_
    have hn : next s author d = (zeroOp, 1) := by
      rw [next, if_pos]
      simp only [Bool.or_eq_true]
      first | exact .inl (.inl hg3) | exact .inl (.inr hg7) | (have := of_decide_eq_true hcR6; exact .inr (decide_eq_true (by omega)))
    refine gc_seq ?_
    refine gc_seqr [(.mv, 0), (.nm, 1), (.mv, 2)] rfl ?_
    refine gr_rd rfl rfl rfl (rd_build Tryd.bt38 (ps := []) (l := encOp zeroOp nilS) rfl rfl) ?_
    refine gr_nx0 rfl rfl (nx_store (vs := encOp zeroOp nilS) Tryd.sizeOf38 rfl rfl rfl (encOp_length _ _) (by repeat (first | exact Upd.here | exact Upd.appl (by assumption) | apply Upd.there | apply Upd.app)) (by simp) (encOp_ones _ rfl)) ?_; rintro _ _ _ _ ⟨rfl, rfl, rfl⟩; refine ⟨trivial, ?_⟩
    rw [wr_all (by simp)]
    refine gr_rd rfl rfl rfl (rd_assign rfl) ?_
    refine gr_nil ?_
    refine gk_then ?_
    refine gc_ret ?_
    refine gk_ret_inBlock ?_
    refine gk_ret_then ?_
    refine gk_result (L' := [] ++ ((b, .cells [.map (some bo), .map (some bw), .map (some bt)].toArray 83 (0, 0)) :: (bo, ob) :: (bw, ow) :: (bt, ot) :: L)) (.inl rfl) _ (resC2 rfl rfl Tryd.ta38 (Cells.own (l := encOp zeroOp nilS) (T := 38) (z := (0, 0)) (by simp )) (Seg.all _) (encOp_length _ _) rfl) (by repeat (first | exact List.Sublist.refl _ | exact List.nil_sublist _ | apply List.Sublist.cons_cons | apply List.Sublist.cons | refine List.Sublist.trans ?_ (List.sublist_append_right _ _))) (Gh.le_refl _) ?_
    exact ⟨[], nilS, by rw [hn], by rw [hn]; exact Ow.nil, rfl, rfl⟩
  · skip
    refine gr_rd rfl rfl rfl (rd_move rfl) ?_
    refine gr_rd rfl rfl rfl (rd_lss rfl rfl) ?_
    (first | refine gr_rd rfl rfl rfl (rd_pick_t rfl rfl) ?_ | refine gr_rd rfl rfl rfl (rd_pick_f rfl rfl) ?_)
    refine gr_rd rfl rfl rfl (rd_move rfl) ?_
    refine gr_split rfl (fun hg7 => ?_) (fun hg7 => ?_)
    · skip
      refine gr_no rfl rfl rfl ?_
      refine gr_no rfl rfl rfl ?_
      (first | refine gr_rd rfl rfl rfl (rd_pick_t rfl rfl) ?_ | refine gr_rd rfl rfl rfl (rd_pick_f rfl rfl) ?_)
      refine gr_rd rfl rfl rfl (rd_assign rfl) ?_
      refine gr_nil ?_
      refine gk_then ?_
      refine gc_yes rfl ?_
      have hn : next s author d = (zeroOp, 1) := by
        rw [next, if_pos]
        simp only [Bool.or_eq_true]
        first | exact .inl (.inl hg3) | exact .inl (.inr hg7) | (have := of_decide_eq_true hcR6; exact .inr (decide_eq_true (by omega)))
      refine gc_seq ?_
      refine gc_seqr [(.mv, 0), (.nm, 1), (.mv, 2)] rfl ?_
      refine gr_rd rfl rfl rfl (rd_build Tryd.bt38 (ps := []) (l := encOp zeroOp nilS) rfl rfl) ?_
      refine gr_nx0 rfl rfl (nx_store (vs := encOp zeroOp nilS) Tryd.sizeOf38 rfl rfl rfl (encOp_length _ _) (by repeat (first | exact Upd.here | exact Upd.appl (by assumption) | apply Upd.there | apply Upd.app)) (by simp) (encOp_ones _ rfl)) ?_; rintro _ _ _ _ ⟨rfl, rfl, rfl⟩; refine ⟨trivial, ?_⟩
      rw [wr_all (by simp)]
      refine gr_rd rfl rfl rfl (rd_assign rfl) ?_
      refine gr_nil ?_
      refine gk_then ?_
      refine gc_ret ?_
      refine gk_ret_inBlock ?_
      refine gk_ret_then ?_
      refine gk_result (L' := [] ++ ((b, .cells [.map (some bo), .map (some bw), .map (some bt)].toArray 83 (0, 0)) :: (bo, ob) :: (bw, ow) :: (bt, ot) :: L)) (.inl rfl) _ (resC2 rfl rfl Tryd.ta38 (Cells.own (l := encOp zeroOp nilS) (T := 38) (z := (0, 0)) (by simp )) (Seg.all _) (encOp_length _ _) rfl) (by repeat (first | exact List.Sublist.refl _ | exact List.nil_sublist _ | apply List.Sublist.cons_cons | apply List.Sublist.cons | refine List.Sublist.trans ?_ (List.sublist_append_right _ _))) (Gh.le_refl _) ?_
      exact ⟨[], nilS, by rw [hn], by rw [hn]; exact Ow.nil, rfl, rfl⟩
    · skip
      refine gr_rd rfl rfl rfl (rd_move rfl) ?_
      refine gr_rd rfl rfl rfl (rd_geq rfl rfl) ?_
      (first | refine gr_rd rfl rfl rfl (rd_pick_t rfl rfl) ?_ | refine gr_rd rfl rfl rfl (rd_pick_f rfl rfl) ?_)
      refine gr_rd rfl rfl rfl (rd_assign rfl) ?_
      refine gr_nil ?_
      refine gk_then ?_
      refine gc_cond rfl (fun hcR6 => ?_) (fun hcR6 => ?_)
      · have hn : next s author d = (zeroOp, 1) := by
          rw [next, if_pos]
          simp only [Bool.or_eq_true]
          first | exact .inl (.inl hg3) | exact .inl (.inr hg7) | (have := of_decide_eq_true hcR6; exact .inr (decide_eq_true (by omega)))
        refine gc_seq ?_
        refine gc_seqr [(.mv, 0), (.nm, 1), (.mv, 2)] rfl ?_
        refine gr_rd rfl rfl rfl (rd_build Tryd.bt38 (ps := []) (l := encOp zeroOp nilS) rfl rfl) ?_
        refine gr_nx0 rfl rfl (nx_store (vs := encOp zeroOp nilS) Tryd.sizeOf38 rfl rfl rfl (encOp_length _ _) (by repeat (first | exact Upd.here | exact Upd.appl (by assumption) | apply Upd.there | apply Upd.app)) (by simp) (encOp_ones _ rfl)) ?_; rintro _ _ _ _ ⟨rfl, rfl, rfl⟩; refine ⟨trivial, ?_⟩
        rw [wr_all (by simp)]
        refine gr_rd rfl rfl rfl (rd_assign rfl) ?_
        refine gr_nil ?_
        refine gk_then ?_
        refine gc_ret ?_
        refine gk_ret_inBlock ?_
        refine gk_ret_then ?_
        refine gk_result (L' := [] ++ ((b, .cells [.map (some bo), .map (some bw), .map (some bt)].toArray 83 (0, 0)) :: (bo, ob) :: (bw, ow) :: (bt, ot) :: L)) (.inl rfl) _ (resC2 rfl rfl Tryd.ta38 (Cells.own (l := encOp zeroOp nilS) (T := 38) (z := (0, 0)) (by simp )) (Seg.all _) (encOp_length _ _) rfl) (by repeat (first | exact List.Sublist.refl _ | exact List.nil_sublist _ | apply List.Sublist.cons_cons | apply List.Sublist.cons | refine List.Sublist.trans ?_ (List.sublist_append_right _ _))) (Gh.le_refl _) ?_
        exact ⟨[], nilS, by rw [hn], by rw [hn]; exact Ow.nil, rfl, rfl⟩
      · have h5 := of_decide_eq_false hcR6
        have hok : ¬ ((!goodDraft d || author < 0 || 4 < author) = true) := by
          simp only [Bool.or_eq_true, not_or, Bool.not_eq_true]; exact ⟨⟨hg3, hg7⟩, decide_eq_false (by omega)⟩
        refine gc_seq ?_
        refine gc_seqr [(.mv, 0), (.mv, 1), (.mv, 2), (.mv, 3)] rfl ?_
        refine gr_rd rfl rfl rfl (rd_move rfl) ?_
        refine gr_rd rfl rfl rfl (rd_lenS Tryd.underlying29 rfl) ?_
        refine gr_rd rfl rfl rfl (rd_gtr rfl rfl) ?_
        refine gr_rd rfl rfl rfl (rd_assign rfl) ?_
        refine gr_nil ?_
        refine gk_then ?_
        refine gc_cond rfl (fun hcR8 => ?_) (fun hcR8 => ?_)
        · have h32 := of_decide_eq_true hcR8
          have hn : next s author d = (zeroOp, 3) := by rw [next, if_neg hok, if_pos (by omega)]
          refine gc_seq ?_
          refine gc_seqr [(.mv, 0), (.nm, 1), (.mv, 2)] rfl ?_
          refine gr_rd rfl rfl rfl (rd_build Tryd.bt38 (ps := []) (l := encOp zeroOp nilS) rfl rfl) ?_
          refine gr_nx0 rfl rfl (nx_store (vs := encOp zeroOp nilS) Tryd.sizeOf38 rfl rfl rfl (encOp_length _ _) (by repeat (first | exact Upd.here | exact Upd.appl (by assumption) | apply Upd.there | apply Upd.app)) (by simp) (encOp_ones _ rfl)) ?_; rintro _ _ _ _ ⟨rfl, rfl, rfl⟩; refine ⟨trivial, ?_⟩
          rw [wr_all (by simp)]
          refine gr_rd rfl rfl rfl (rd_assign rfl) ?_
          refine gr_nil ?_
          refine gk_then ?_
          refine gc_ret ?_
          refine gk_ret_inBlock ?_
          refine gk_ret_then ?_
          refine gk_result (L' := [] ++ ((b, .cells [.map (some bo), .map (some bw), .map (some bt)].toArray 83 (0, 0)) :: (bo, ob) :: (bw, ow) :: (bt, ot) :: L)) (.inl rfl) _ (resC2 rfl rfl Tryd.ta38 (Cells.own (l := encOp zeroOp nilS) (T := 38) (z := (0, 0)) (by simp )) (Seg.all _) (encOp_length _ _) rfl) (by repeat (first | exact List.Sublist.refl _ | exact List.nil_sublist _ | apply List.Sublist.cons_cons | apply List.Sublist.cons | refine List.Sublist.trans ?_ (List.sublist_append_right _ _))) (Gh.le_refl _) ?_
          exact ⟨[], nilS, by rw [hn], by rw [hn]; exact Ow.nil, rfl, rfl⟩
        · have h32 := of_decide_eq_false hcR8
          have hn : next s author d = (⟨d, author, depthOf s (heads s), heads s⟩, 0) := by rw [next, if_neg hok, if_neg (by omega)]
          refine gc_skip ?_
          refine gk_inBlock ?_
          refine gk_then ?_
          refine gc_seq ?_
          refine gc_seqr [(.mv, 0), (.nm, 1), (.mv, 2)] rfl ?_
          refine gr_rd rfl rfl rfl (rd_loadA Tryd.ta38 rfl (Cells.own (l := encOp ⟨d, author, depthOf s (heads s), heads s⟩ (.slice ah (heads s).length ch)) (T := 38) (z := (0, 0)) (by simp [baseL])) (Seg.all _) (encOp_length _ _)) ?_
          refine gr_nx0 rfl rfl (nx_store (vs := encOp ⟨d, author, depthOf s (heads s), heads s⟩ (.slice ah (heads s).length ch)) Tryd.sizeOf38 rfl rfl rfl (encOp_length _ _) (by repeat (first | exact Upd.here | exact Upd.appl (by assumption) | apply Upd.there | apply Upd.app)) (by simp) (encOp_ones _ rfl)) ?_; rintro _ _ _ _ ⟨rfl, rfl, rfl⟩; refine ⟨trivial, ?_⟩
          rw [wr_all (by simp)]
          refine gr_rd rfl rfl rfl (rd_assign rfl) ?_
          refine gr_nil ?_
          refine gk_then ?_
          refine gc_ret ?_
          refine gk_perm (L' := ([(b9, .cells (encOp ⟨d, author, depthOf s (heads s), heads s⟩ (.slice ah (heads s).length ch)).toArray 38 (0, 0)), (b6, .cells (encOp ⟨d, author, depthOf s (heads s), heads s⟩ (.slice ah (heads s).length ch)).toArray 38 (0, 0)), (b5, .cells (encDraft d).toArray 36 (0, 0))]) ++ (C ++ ((b, .cells [.map (some bo), .map (some bw), .map (some bt)].toArray 83 (0, 0)) :: (bo, ob) :: (bw, ow) :: (bt, ot) :: L))) (by haveI : DecidableEq (Nat × Obj) := fun _ _ => Classical.propDecidable _; rw [List.perm_iff_count]; intro a; simp only [List.count_append, List.count_cons, List.count_nil]; ac_rfl) ?_
          refine gk_result (L' := C ++ ((b, .cells [.map (some bo), .map (some bw), .map (some bt)].toArray 83 (0, 0)) :: (bo, ob) :: (bw, ow) :: (bt, ot) :: L)) (.inl rfl) _ (resC2 rfl rfl Tryd.ta38 (Cells.own (l := encOp ⟨d, author, depthOf s (heads s), heads s⟩ (.slice ah (heads s).length ch)) (T := 38) (z := (0, 0)) (by simp )) (Seg.all _) (encOp_length _ _) rfl) (List.sublist_append_right _ _) (Gh.le_refl _) ?_
          exact ⟨C, .slice ah (heads s).length ch, by rw [hn], by rw [hn]; exact hC, rfl, rfl⟩
theorem names_nil (H : Gh) (L : Chunks) : CC Tryd.prog 14 #[.pointer none] H L (fun v H' L' => v = nilS ∧ H = H' ∧ L = L') := by
  refine cc_of Tryd.func14 rfl (Nat.le_of_ble_eq_true rfl) ?_
  simp only [Tryd.ntmps14]
  refine gc_seq ?_
  refine gc_seqr [(.mv, 0)] rfl ?_
  refine gr_rd rfl rfl rfl (rd_assign rfl) ?_
  refine gr_nil ?_
  refine gk_then ?_
  refine gc_seq ?_
  refine gc_seq ?_
  refine gc_seqr [(.mv, 0), (.mv, 1)] rfl ?_
  refine gr_rd rfl rfl rfl (rd_move rfl) ?_
  refine gr_rd rfl rfl rfl (rd_ptrNil Tryd.underlying27 rfl rfl) ?_
  refine gr_nil ?_
  refine gk_then ?_
  refine gc_yes rfl ?_
  refine gc_seq ?_
  refine gc_seqr [(.mv, 0)] rfl ?_
  refine gr_rd rfl rfl rfl (rd_assign rfl) ?_
  refine gr_nil ?_
  refine gk_then ?_
  refine gc_ret ?_
  refine gk_ret_then ?_
  refine gk_result (L' := L) (.inl rfl) _ (res1 rfl rfl) (by repeat (first | exact List.Sublist.refl _ | apply List.Sublist.cons_cons | apply List.Sublist.cons | apply List.Sublist.append (List.Sublist.refl _) | refine List.Sublist.trans ?_ (List.sublist_append_right _ _))) (by first | exact Gh.le_refl _ | assumption | exact Gh.le_trans (by assumption) (by assumption)) ?_
  exact ⟨rfl, rfl, rfl⟩
theorem waits_nil (H : Gh) (L : Chunks) : CC Tryd.prog 18 #[.pointer none] H L (fun v H' L' => v = nilS ∧ H = H' ∧ L = L') := by
  refine cc_of Tryd.func18 rfl (Nat.le_of_ble_eq_true rfl) ?_
  simp only [Tryd.ntmps18]
  refine gc_seq ?_
  refine gc_seqr [(.mv, 0)] rfl ?_
  refine gr_rd rfl rfl rfl (rd_assign rfl) ?_
  refine gr_nil ?_
  refine gk_then ?_
  refine gc_seq ?_
  refine gc_seq ?_
  refine gc_seqr [(.mv, 0), (.mv, 1)] rfl ?_
  refine gr_rd rfl rfl rfl (rd_move rfl) ?_
  refine gr_rd rfl rfl rfl (rd_ptrNil Tryd.underlying27 rfl rfl) ?_
  refine gr_nil ?_
  refine gk_then ?_
  refine gc_yes rfl ?_
  refine gc_seq ?_
  refine gc_seqr [(.mv, 0)] rfl ?_
  refine gr_rd rfl rfl rfl (rd_assign rfl) ?_
  refine gr_nil ?_
  refine gk_then ?_
  refine gc_ret ?_
  refine gk_ret_then ?_
  refine gk_result (L' := L) (.inl rfl) _ (res1 rfl rfl) (by repeat (first | exact List.Sublist.refl _ | apply List.Sublist.cons_cons | apply List.Sublist.cons | apply List.Sublist.append (List.Sublist.refl _) | refine List.Sublist.trans ?_ (List.sublist_append_right _ _))) (by first | exact Gh.le_refl _ | assumption | exact Gh.le_trans (by assumption) (by assumption)) ?_
  exact ⟨rfl, rfl, rfl⟩
theorem past_nil (H : Gh) (L : Chunks) (n : Nm) : CC Tryd.prog 28 #[.pointer none, ag (encId n)] H L (fun v H' L' => v = nilS ∧ H = H' ∧ L = L') := by
  refine cc_of Tryd.func28 rfl (Nat.le_of_ble_eq_true rfl) ?_
  simp only [Tryd.ntmps28]
  refine gc_seq ?_
  refine gc_seqr [(.nm, 0), (.mv, 1)] rfl ?_
  refine gr_nx rfl rfl rfl (nx_box rfl rfl) ?_; rintro _ _ _ _ ⟨b3, rfl, rfl, rfl⟩; refine ⟨trivial, ?_⟩
  refine gr_rd rfl rfl rfl (rd_assign rfl) ?_
  refine gr_nil ?_
  refine gk_then ?_
  refine gc_seq ?_
  refine gc_seq ?_
  refine gc_seqr [(.mv, 0), (.mv, 1)] rfl ?_
  refine gr_rd rfl rfl rfl (rd_move rfl) ?_
  refine gr_rd rfl rfl rfl (rd_ptrNil Tryd.underlying27 rfl rfl) ?_
  refine gr_nil ?_
  refine gk_then ?_
  refine gc_yes rfl ?_
  refine gc_seq ?_
  refine gc_seqr [(.mv, 0)] rfl ?_
  refine gr_rd rfl rfl rfl (rd_assign rfl) ?_
  refine gr_nil ?_
  refine gk_then ?_
  refine gc_ret ?_
  refine gk_ret_then ?_
  refine gk_result (L' := L) (.inl rfl) _ (res1 rfl rfl) (by repeat (first | exact List.Sublist.refl _ | apply List.Sublist.cons_cons | apply List.Sublist.cons | apply List.Sublist.append (List.Sublist.refl _) | refine List.Sublist.trans ?_ (List.sublist_append_right _ _))) (by first | exact Gh.le_refl _ | assumption | exact Gh.le_trans (by assumption) (by assumption)) ?_
  exact ⟨rfl, rfl, rfl⟩
theorem take_nil (H : Gh) (L : Chunks) (o : POp) (pv : Value) (h1 : pv.oneCell' = true) : CC Tryd.prog 13 #[.pointer none, ag (encOp o pv)] H L (fun v H' L' => v = .tuple #[nilS, i64 2] ∧ H = H' ∧ L = L') := by
  refine cc_of Tryd.func13 rfl (Nat.le_of_ble_eq_true rfl) ?_
  simp only [Tryd.ntmps13]
  refine gc_seq ?_
  refine gc_seqr [(.nm, 0), (.mv, 1), (.mv, 2)] rfl ?_
  refine gr_nx rfl rfl rfl (nx_box rfl rfl) ?_; rintro _ _ _ _ ⟨b3, rfl, rfl, rfl⟩; refine ⟨trivial, ?_⟩
  refine gr_rd rfl rfl rfl (rd_assign rfl) ?_
  refine gr_rd rfl rfl rfl (rd_assign rfl) ?_
  refine gr_nil ?_
  refine gk_then ?_
  refine gc_seq ?_
  refine gc_block ?_
  refine gc_seq ?_
  refine gc_seqr [(.mv, 0), (.mv, 1), (.mv, 2)] rfl ?_
  refine gr_rd rfl rfl rfl (rd_move rfl) ?_
  refine gr_rd rfl rfl rfl (rd_ptrNil Tryd.underlying27 rfl rfl) ?_
  refine gr_rd rfl rfl rfl (rd_assign rfl) ?_
  refine gr_nil ?_
  refine gk_then ?_
  refine gc_yes rfl ?_
  refine gc_seq ?_
  refine gc_seqr [(.mv, 0), (.mv, 1)] rfl ?_
  refine gr_rd rfl rfl rfl (rd_assign rfl) ?_
  refine gr_rd rfl rfl rfl (rd_assign rfl) ?_
  refine gr_nil ?_
  refine gk_then ?_
  refine gc_ret ?_
  refine gk_ret_inBlock ?_
  refine gk_ret_then ?_
  refine gk_result (L' := L) (.inl rfl) _ (res2 rfl rfl rfl) (by repeat (first | exact List.Sublist.refl _ | apply List.Sublist.cons_cons | apply List.Sublist.cons | apply List.Sublist.append (List.Sublist.refl _) | refine List.Sublist.trans ?_ (List.sublist_append_right _ _))) (by first | exact Gh.le_refl _ | assumption | exact Gh.le_trans (by assumption) (by assumption)) ?_
  exact ⟨rfl, rfl, rfl⟩
theorem get_nil (H : Gh) (L : Chunks) (n : Nm) : CC Tryd.prog 15 #[.pointer none, ag (encId n)] H L (fun v H' L' => v = .tuple #[ag (encOp zeroOp nilS), i64 2] ∧ H = H' ∧ L = L') := by
  refine cc_of Tryd.func15 rfl (Nat.le_of_ble_eq_true rfl) ?_
  simp only [Tryd.ntmps15]
  refine gc_seq ?_
  refine gc_seqr [(.nm, 0), (.nm, 1), (.mv, 2)] rfl ?_
  refine gr_nx rfl rfl rfl (nx_box rfl rfl) ?_; rintro _ _ _ _ ⟨b3, rfl, rfl, rfl⟩; refine ⟨trivial, ?_⟩
  refine gr_nx rfl rfl rfl (nx_alloc Tryd.zeroValue38 rfl) ?_; rintro _ _ _ _ ⟨b4, rfl, rfl, rfl⟩; refine ⟨trivial, ?_⟩
  refine gr_rd rfl rfl rfl (rd_assign rfl) ?_
  refine gr_nil ?_
  refine gk_then ?_
  refine gc_seq ?_
  refine gc_seq ?_
  refine gc_seqr [(.mv, 0), (.mv, 1)] rfl ?_
  refine gr_rd rfl rfl rfl (rd_move rfl) ?_
  refine gr_rd rfl rfl rfl (rd_ptrNil Tryd.underlying27 rfl rfl) ?_
  refine gr_nil ?_
  refine gk_then ?_
  refine gc_yes rfl ?_
  refine gc_seq ?_
  refine gc_seqr [(.mv, 0), (.nm, 1), (.mv, 2)] rfl ?_
  refine gr_rd rfl rfl rfl (rd_build Tryd.bt38 (ps := []) (l := encOp zeroOp nilS) rfl rfl) ?_
  refine gr_nx0 rfl rfl (nx_store (vs := encOp zeroOp nilS) Tryd.sizeOf38 rfl rfl rfl (encOp_length _ _) (by repeat (first | exact Upd.here | exact Upd.appl (by assumption) | apply Upd.there | apply Upd.app)) (by simp) (encOp_ones _ rfl)) ?_; rintro _ _ _ _ ⟨rfl, rfl, rfl⟩; refine ⟨trivial, ?_⟩
  rw [wr_all (by simp)]
  refine gr_rd rfl rfl rfl (rd_assign rfl) ?_
  refine gr_nil ?_
  refine gk_then ?_
  refine gc_ret ?_
  refine gk_ret_then ?_
  refine gk_result (L' := L) (.inl rfl) _ (resC2 rfl rfl Tryd.ta38 (Cells.own (l := encOp zeroOp nilS) (T := 38) (z := (0, 0)) (by simp )) (Seg.all _) (encOp_length _ _) rfl) (by repeat (first | exact List.Sublist.refl _ | exact List.nil_sublist _ | apply List.Sublist.cons_cons | apply List.Sublist.cons | refine List.Sublist.trans ?_ (List.sublist_append_right _ _))) (Gh.le_refl _) ?_
  exact ⟨rfl, rfl, rfl⟩
theorem next_nil (H : Gh) (L : Chunks) (author : Int) (d : Draft) : CC Tryd.prog 26 #[.pointer none, i64 author, ag (encDraft d)] H L (fun v H' L' => v = .tuple #[ag (encOp zeroOp nilS), i64 2] ∧ H = H' ∧ L = L') := by
  refine cc_of Tryd.func26 rfl (Nat.le_of_ble_eq_true rfl) ?_
  simp only [Tryd.ntmps26]
  refine gc_seq ?_
  refine gc_seqr [(.nm, 0), (.nm, 1), (.mv, 2)] rfl ?_
  refine gr_nx rfl rfl rfl (nx_box rfl rfl) ?_; rintro _ _ _ _ ⟨b5, rfl, rfl, rfl⟩; refine ⟨trivial, ?_⟩
  refine gr_nx rfl rfl rfl (nx_alloc Tryd.zeroValue38 rfl) ?_; rintro _ _ _ _ ⟨b6, rfl, rfl, rfl⟩; refine ⟨trivial, ?_⟩
  refine gr_rd rfl rfl rfl (rd_assign rfl) ?_
  refine gr_nil ?_
  refine gk_then ?_
  refine gc_seq ?_
  refine gc_seq ?_
  refine gc_seqr [(.mv, 0), (.mv, 1)] rfl ?_
  refine gr_rd rfl rfl rfl (rd_move rfl) ?_
  refine gr_rd rfl rfl rfl (rd_ptrNil Tryd.underlying27 rfl rfl) ?_
  refine gr_nil ?_
  refine gk_then ?_
  refine gc_yes rfl ?_
  refine gc_seq ?_
  refine gc_seqr [(.mv, 0), (.nm, 1), (.mv, 2)] rfl ?_
  refine gr_rd rfl rfl rfl (rd_build Tryd.bt38 (ps := []) (l := encOp zeroOp nilS) rfl rfl) ?_
  refine gr_nx0 rfl rfl (nx_store (vs := encOp zeroOp nilS) Tryd.sizeOf38 rfl rfl rfl (encOp_length _ _) (by repeat (first | exact Upd.here | exact Upd.appl (by assumption) | apply Upd.there | apply Upd.app)) (by simp) (encOp_ones _ rfl)) ?_; rintro _ _ _ _ ⟨rfl, rfl, rfl⟩; refine ⟨trivial, ?_⟩
  rw [wr_all (by simp)]
  refine gr_rd rfl rfl rfl (rd_assign rfl) ?_
  refine gr_nil ?_
  refine gk_then ?_
  refine gc_ret ?_
  refine gk_ret_then ?_
  refine gk_result (L' := L) (.inl rfl) _ (resC2 rfl rfl Tryd.ta38 (Cells.own (l := encOp zeroOp nilS) (T := 38) (z := (0, 0)) (by simp )) (Seg.all _) (encOp_length _ _) rfl) (by repeat (first | exact List.Sublist.refl _ | exact List.nil_sublist _ | apply List.Sublist.cons_cons | apply List.Sublist.cons | refine List.Sublist.trans ?_ (List.sublist_append_right _ _))) (Gh.le_refl _) ?_
  exact ⟨rfl, rfl, rfl⟩
theorem heads_nil (H : Gh) (L : Chunks) : CC Tryd.prog 21 #[.pointer none] H L (fun v H' L' => v = nilS ∧ H = H' ∧ L = L') := by
  refine cc_of Tryd.func21 rfl (Nat.le_of_ble_eq_true rfl) ?_
  simp only [Tryd.ntmps21]
  refine gc_seq ?_
  refine gc_seqr [(.mv, 0)] rfl ?_
  refine gr_rd rfl rfl rfl (rd_assign rfl) ?_
  refine gr_nil ?_
  refine gk_then ?_
  refine gc_seq ?_
  refine gc_seqr [(.mv, 0)] rfl ?_
  refine gr_rd rfl rfl rfl (rd_assign rfl) ?_
  refine gr_nil ?_
  refine gk_then ?_
  refine gc_seq ?_
  refine gc_seq ?_
  refine gc_seqr [(.mv, 0), (.nm, 1), (.mv, 2), (.mv, 3)] rfl ?_
  refine gr_rd rfl rfl rfl (rd_move rfl) ?_
  refine gr_nx rfl rfl rfl (nx_call Tryd.en14 rfl (names_nil _ _)) ?_; rintro v7 H' L' hle ⟨rfl, rfl, rfl⟩; refine ⟨trivial, ?_⟩
  refine gr_rd rfl rfl rfl (rd_lenS Tryd.underlying29 rfl) ?_
  refine gr_rd rfl rfl rfl (rd_move rfl) ?_
  refine gr_nil ?_
  refine gk_then ?_
  refine gc_block ?_
  refine gc_loop (fun _ : Unit => [(3, nilS), (8, i64 0), (9, i64 0)]) (fun _ H1 L1 => H = H1 ∧ L = L1) (fun _ => 0) (()) ?_ (by repeat (first | exact Subs.nil | refine Subs.cons rfl ?_)) ?_
  · exact ⟨rfl, rfl⟩
  · rintro ⟨⟩ H1 L1 ⟨rfl, rfl⟩
    refine gc_seq ?_
    refine gc_seqr [(.mv, 0)] rfl ?_
    refine gr_rd rfl rfl rfl (rd_lss rfl rfl) ?_
    refine gr_nil ?_
    refine gk_then ?_
    refine gc_seq ?_
    refine gc_no rfl ?_
    refine gc_exit ?_
    refine gk_exit_then ?_
    refine gk_exit_then ?_
    refine gk_here ?_
    refine gk_then ?_
    refine gc_seq ?_
    refine gc_seqr [(.mv, 0), (.mv, 1)] rfl ?_
    refine gr_rd rfl rfl rfl (rd_move rfl) ?_
    refine gr_rd rfl rfl rfl (rd_assign rfl) ?_
    refine gr_nil ?_
    refine gk_then ?_
    refine gc_ret ?_
    refine gk_result (L' := L) (.inl rfl) _ (res1 rfl rfl) (by repeat (first | exact List.Sublist.refl _ | apply List.Sublist.cons_cons | apply List.Sublist.cons | apply List.Sublist.append (List.Sublist.refl _) | refine List.Sublist.trans ?_ (List.sublist_append_right _ _))) (by first | exact Gh.le_refl _ | assumption | exact Gh.le_trans (by assumption) (by assumption)) ?_
    exact ⟨rfl, rfl, rfl⟩
end Go.Proofs.YtfhldfjknagidaaDoor
