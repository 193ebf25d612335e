/-
  Walks: the program's set: who is ready; an operation comes.
-/
import Derived.Test.YtfhldfjknagidaaDoorVKs18
set_option linter.unusedSimpArgs false
set_option linter.unusedVariables false
set_option linter.unnecessarySimpa false
set_option linter.all false
namespace Go.Proofs.YtfhldfjknagidaaDoor
open Go.VK Go.Tr
set_option maxRecDepth 20000
attribute [local irreducible] Go.Tr.sha
theorem DRep.view {H : Gh} {L : Chunks} {b bo bw bt : Nat} {s : DSet} {ob ow ot : Obj} (h : DRep H s ob ow ot) (hc : Cells H L b [.map (some bo), .map (some bw), .map (some bt)]) (h1 : (bo, ob) ∈ L) (h2 : (bw, ow) ∈ L) (h3 : (bt, ot) ∈ L) : DView H L b bo bw bt s ob ow ot :=
  ⟨hc, h1, h2, h3, h.ops, h.wait, h.cnt⟩
theorem readyB_get {s : DSet} {n : Nm} {q : POp} (h : Tr.get s.wait n = some q) : readyB s n = whole s q := by
  simp [readyB, h]
theorem ready_at {s : DSet} {k : Nat} (hk : k < (waits s).length) (h : readyB s ((waits s).getD k Nm.zero) = true) (hb : ∀ j, j < k → readyB s ((waits s).getD j Nm.zero) = false) : readyOf s = some ((waits s).getD k Nm.zero) := by
  rw [readyOf, List.find?_eq_some_iff_getElem]
  have e : ∀ j (hj : j < (waits s).length), (waits s).getD j Nm.zero = (waits s)[j] := fun j hj => by rw [List.getD_eq_getElem?_getD, List.getElem?_eq_getElem hj]; rfl
  exact ⟨h, k, hk, (e k hk).symm, fun j hj => by rw [← e j (by omega), hb j hj]; rfl⟩
theorem ready_not {s : DSet} (hb : ∀ j, j < (waits s).length → readyB s ((waits s).getD j Nm.zero) = false) : readyOf s = none := by
  rw [readyOf, List.find?_eq_none]
  intro n hn
  obtain ⟨j, hj, rfl⟩ := List.getElem_of_mem hn
  have := hb j hj
  rw [List.getD_eq_getElem?_getD, List.getElem?_eq_getElem hj] at this
  simpa using this
theorem lacks_zero (s : DSet) (o : POp) : (((lacksOf s o).length : Int) == 0) = whole s o := by
  have h := lacks_whole s o
  cases hw : whole s o with
  | true =>
    rw [hw] at h
    have h1 := of_decide_eq_false h
    have h0 : (lacksOf s o).length = 0 := by omega
    rw [h0]; rfl
  | false =>
    rw [hw] at h
    have h1 := of_decide_eq_true h
    exact beq_eq_false_iff_ne.2 (by omega)
/-- What put leaves. -/
theorem DRep.put {H : Gh} {s : DSet} {ob ow ot ob' ot' : Obj} {n : Nm} {o : POp} (h : DRep H s ob ow ot) (hn : has s.ops n = false) (hw : has s.wait n = false) (hsm : o.preds.length ≤ 32) (h1 : EntO H ob' (s.ops ++ [(n, o)])) (h2 : CntO ot' (Tr.cnt (s.ops ++ [(n, o)]))) :
    DRep H ⟨s.ops ++ [(n, o)], s.wait⟩ ob' ow ot' := by
  refine ⟨h1, h.wait, h2, ?_, fun p hp => ?_⟩
  · have hno : n ∉ s.ops.map (·.1) ++ s.wait.map (·.1) := by
      rw [List.mem_append, not_or]
      exact ⟨fun hx => (by rw [has_mem.2 hx] at hn; cases hn), fun hx => (by rw [has_mem.2 hx] at hw; cases hw)⟩
    have hp : ((s.ops ++ [(n, o)]).map (·.1) ++ s.wait.map (·.1)).Perm (n :: (s.ops.map (·.1) ++ s.wait.map (·.1))) := by
      simp only [List.map_append, List.map_cons, List.map_nil, List.append_assoc, List.singleton_append]
      exact List.perm_middle
    exact hp.nodup_iff.2 (List.nodup_cons.2 ⟨hno, h.nd⟩)
  · rcases List.mem_append.1 hp with hp | hp
    · rcases List.mem_append.1 hp with hp | hp
      · exact h.small p (List.mem_append_left _ hp)
      · rw [List.mem_singleton.1 hp]; exact hsm
    · exact h.small p (List.mem_append_right _ hp)
/-- What waits is taken out. -/
theorem DRep.drop {H : Gh} {s : DSet} {ob ow ot ow' : Obj} {n : Nm} (h : DRep H s ob ow ot) (h1 : EntO H ow' (s.wait.filter fun p => !(p.1 == n))) : DRep H ⟨s.ops, s.wait.filter fun p => !(p.1 == n)⟩ ob ow' ot :=
  ⟨h.ops, h1, h.cnt, h.nd.sublist (List.Sublist.append (List.Sublist.refl _) ((List.filter_sublist).map _)), fun p hp => h.small p (by
    rcases List.mem_append.1 hp with hp | hp
    · exact List.mem_append_left _ hp
    · exact List.mem_append_right _ (List.mem_filter.1 hp).1)⟩
/-- One that waits comes in. -/
theorem DRep.wait' {H : Gh} {s : DSet} {ob ow ot ow' : Obj} {n : Nm} {o : POp} (h : DRep H s ob ow ot) (hn : has s.ops n = false) (hw : has s.wait n = false) (hsm : o.preds.length ≤ 32) (h1 : EntO H ow' (s.wait ++ [(n, o)])) :
    DRep H ⟨s.ops, s.wait ++ [(n, o)]⟩ ob ow' ot := by
  refine ⟨h.ops, h1, h.cnt, ?_, fun p hp => ?_⟩
  · have hno : n ∉ s.ops.map (·.1) ++ s.wait.map (·.1) := by
      rw [List.mem_append, not_or]
      exact ⟨fun hx => (by rw [has_mem.2 hx] at hn; cases hn), fun hx => (by rw [has_mem.2 hx] at hw; cases hw)⟩
    have hp : (s.ops.map (·.1) ++ (s.wait ++ [(n, o)]).map (·.1)).Perm (n :: (s.ops.map (·.1) ++ s.wait.map (·.1))) := by
      simp only [List.map_append, List.map_cons, List.map_nil]
      rw [← List.append_assoc]
      exact List.perm_append_singleton _ _
    exact hp.nodup_iff.2 (List.nodup_cons.2 ⟨hno, h.nd⟩)
  · rcases List.mem_append.1 hp with hp | hp
    · exact h.small p (List.mem_append_left _ hp)
    · rcases List.mem_append.1 hp with hp | hp
      · exact h.small p (List.mem_append_right _ hp)
      · rw [List.mem_singleton.1 hp]; exact hsm
theorem DRep.ndw {H : Gh} {s : DSet} {ob ow ot : Obj} (h : DRep H s ob ow ot) : (s.wait.map (·.1)).Nodup := (List.nodup_append.1 h.nd).2.1
theorem DRep.apart {H : Gh} {s : DSet} {ob ow ot : Obj} (h : DRep H s ob ow ot) {n : Nm} (hw : has s.wait n = true) : has s.ops n = false := by
  cases hh : has s.ops n with
  | false => rfl
  | true => exact absurd rfl ((List.nodup_append.1 h.nd).2.2 n (has_mem.1 hh) n (has_mem.1 hw))
theorem has_dropped (l : List (Nm × POp)) (n : Nm) : has (l.filter fun p => !(p.1 == n)) n = false := by
  rw [has, List.any_eq_false]
  intro p hp
  have := (List.mem_filter.1 hp).2
  simpa using this
theorem good_small {o : POp} (h : good o = true) : o.preds.length ≤ 32 := by
  simp only [good, Bool.and_eq_true, decide_eq_true_eq] at h
  exact h.1.2

set_option maxHeartbeats 1000000 in
theorem ready_cc (H : Gh) (L : Chunks) {b bo bw bt : Nat} {s : DSet} {ob ow ot : Obj} (hR : DRep H s ob ow ot) (hz : s.wait.length < 16777216) :
    CC Tryd.prog 47 #[pt b 0] H ((b, .cells [.map (some bo), .map (some bw), .map (some bt)].toArray 83 (0, 0)) :: (bo, ob) :: (bw, ow) :: (bt, ot) :: L) (fun v H' L' => v = .tuple #[ag (encId ((readyOf s).getD Nm.zero)), .bool (readyOf s).isSome] ∧ H = H' ∧ ((b, .cells [.map (some bo), .map (some bw), .map (some bt)].toArray 83 (0, 0)) :: (bo, ob) :: (bw, ow) :: (bt, ot) :: L) = L') := by
  obtain ⟨m, hM, hmn, hlk⟩ := look_op hR.wait
  have hml : m.length = s.wait.length := by have := congrArg List.length hmn; simpa using this
  have hwl : (waits s).length = m.length := by rw [waits, rising_length, List.length_map, hml]
  refine cc_of Tryd.func47 rfl (Nat.le_of_ble_eq_true rfl) ?_
  simp only [Tryd.ntmps47]
  refine gc_seq ?_
  refine gc_seqr [(.nm, 0), (.mv, 1)] rfl ?_
  refine gr_nx rfl rfl rfl (nx_alloc Tryd.zeroValue34 rfl) ?_; rintro _ _ _ _ ⟨b2, rfl, rfl, rfl⟩; refine ⟨trivial, ?_⟩
  refine gr_rd rfl rfl rfl (rd_assign rfl) ?_
  refine gr_nil ?_
  refine gk_then ?_
  refine gc_seq ?_
  refine gc_seq ?_
  refine gc_seqr [(.mv, 0), (.mv, 1), (.mv, 2), (.mv, 3), (.nm, 4), (.nm, 5), (.mv, 6), (.mv, 7)] rfl ?_
  refine gr_rd rfl rfl rfl (rd_move rfl) ?_
  refine gr_rd rfl rfl rfl (rd_nilCheck rfl) ?_
  refine gr_rd rfl rfl rfl (rd_fieldAddr Tryd.fa83_1 rfl) ?_
  refine gr_rd rfl rfl rfl (rd_load1 Tryd.to80 rfl (Cells.own (l := [.map (some bo), .map (some bw), .map (some bt)]) (T := 83) (z := (0, 0)) (by simp [baseL])) rfl) ?_
  refine gr_nx rfl rfl rfl (nx_call Tryd.en49 rfl (keys_cc _ _ (.map (some bw)) rfl)) ?_; rintro v10 H' L' hle ⟨Bm, rfl, rfl, rfl⟩; refine ⟨trivial, ?_⟩
  refine gr_perm (L' := ((Bm, .cells [.map (some bw)].toArray 80 (0, 0)) :: (bw, ow) :: ((b2, .cells (encId Nm.zero).toArray 34 (0, 0)) :: (b, .cells [.map (some bo), .map (some bw), .map (some bt)].toArray 83 (0, 0)) :: (bo, ob) :: (bt, ot) :: L))) (by haveI : DecidableEq (Nat × Obj) := fun _ _ => Classical.propDecidable _; rw [List.perm_iff_count]; intro a; simp only [List.count_append, List.count_cons, List.count_nil]; ac_rfl) ?_
  refine gr_nx rfl rfl rfl (nx_call Tryd.en48 rfl (sorted_cc _ _ hM (by omega))) ?_; rintro v11 H' L' hle ⟨C, hO, rfl, rfl⟩; refine ⟨trivial, ?_⟩
  obtain ⟨An, cn, rfl, hcn⟩ := hO.slice
  rw [hmn, show rising (s.wait.map (·.1)) = waits s from rfl, ← hwl] at hO
  rw [← hwl] at hcn ⊢
  refine gr_rd rfl rfl rfl (rd_lenS Tryd.underlying29 rfl) ?_
  refine gr_rd rfl rfl rfl (rd_move rfl) ?_
  refine gr_perm (L' := [(Bm, .cells [.map (some bw)].toArray 80 (0, 0))] ++ ((b2, .cells (encId Nm.zero).toArray 34 (0, 0)) :: (C ++ ((b, .cells [.map (some bo), .map (some bw), .map (some bt)].toArray 83 (0, 0)) :: (bo, ob) :: (bw, ow) :: (bt, ot) :: L)))) (by haveI : DecidableEq (Nat × Obj) := fun _ _ => Classical.propDecidable _; rw [List.perm_iff_count]; intro a; simp only [List.count_append, List.count_cons, List.count_nil]; ac_rfl) ?_
  refine gr_drop (L' := ((b2, .cells (encId Nm.zero).toArray 34 (0, 0)) :: (C ++ ((b, .cells [.map (some bo), .map (some bw), .map (some bt)].toArray 83 (0, 0)) :: (bo, ob) :: (bw, ow) :: (bt, ot) :: L)))) (List.sublist_append_right _ _) ?_
  obtain ⟨_, bn, on, cn', ln, hne, hcn2, hnn, hn0, hn1, hn2⟩ := (Ow.slT (H := H) (L := ((b2, .cells (encId Nm.zero).toArray 34 (0, 0)) :: (C ++ ((b, .cells [.map (some bo), .map (some bw), .map (some bt)].toArray 83 (0, 0)) :: (bo, ob) :: (bw, ow) :: (bt, ot) :: L)))) (xs := waits s) encId_length hO rfl (by omega) (by intro x hx; simp [hx]))
  cases hne
  refine gr_nil ?_
  refine gk_then ?_
  refine gc_block ?_
  refine gc_loop (fun k : Nat => [(0, pt b 0), (2, pt b2 0), (11, .slice An (waits s).length cn), (12, i64 (waits s).length), (13, i64 k)]) (fun k H1 L1 => H = H1 ∧ ((b2, .cells (encId Nm.zero).toArray 34 (0, 0)) :: (C ++ ((b, .cells [.map (some bo), .map (some bw), .map (some bt)].toArray 83 (0, 0)) :: (bo, ob) :: (bw, ow) :: (bt, ot) :: L))) = L1 ∧ k ≤ (waits s).length ∧ ∀ j, j < k → readyB s ((waits s).getD j Nm.zero) = false) (fun k => (waits s).length - k) (0) ?_ (by repeat (first | exact Subs.nil | refine Subs.cons rfl ?_)) ?_
  · exact ⟨rfl, rfl, Nat.zero_le _, fun j hj => absurd hj (Nat.not_lt_zero _)⟩
  · rintro k H1 L1 ⟨rfl, rfl, hk, hnr⟩
    refine gc_seq ?_
    refine gc_seqr [(.mv, 0)] rfl ?_
    refine gr_rd rfl rfl rfl (rd_lss rfl rfl) ?_
    refine gr_nil ?_
    refine gk_then ?_
    refine gc_seq ?_
    refine gc_cond rfl (fun hc0 => ?_) (fun hc0 => ?_)
    · have hlt : k < (waits s).length := by simpa using hc0
      obtain ⟨hAe, hca, hsa⟩ := ids_at2 (i := (k : Int)) hn1 hn2 hlt rfl
      refine gc_skip ?_
      refine gk_then ?_
      refine gc_seq ?_
      refine gc_block ?_
      refine gc_seq ?_
      refine gc_seqr [(.mv, 0), (.mv, 1), (.nm, 2), (.nm, 3)] rfl ?_
      refine gr_rd rfl rfl rfl (rd_indexS Tryd.underlying29 Tryd.sizeOf34 rfl rfl hAe (by omega) (by omega)) ?_
      refine gr_rd rfl rfl rfl (rd_loadA Tryd.ta34 rfl hca hsa (encId_length _)) ?_
      refine gr_nx rfl rfl rfl (nx_alloc Tryd.zeroValue34 rfl) ?_; rintro _ _ _ _ ⟨b5, rfl, rfl, rfl⟩; refine ⟨trivial, ?_⟩
      refine gr_nx0 rfl rfl (nx_store (vs := encId ((waits s).getD k Nm.zero)) Tryd.sizeOf34 rfl rfl rfl (encId_length _) (by repeat (first | exact Upd.here | exact Upd.appl (by assumption) | apply Upd.there | apply Upd.app)) (by simp) (encId_ones _)) ?_; rintro _ _ _ _ ⟨rfl, rfl, rfl⟩; refine ⟨trivial, ?_⟩
      rw [wr_all (by simp)]
      refine gr_nil ?_
      refine gk_then ?_
      refine gc_seq ?_
      refine gc_draw Tryd.mixed [(.mv, 0), (.mv, 1), (.mv, 2), (.mv, 3), (.mv, 4), (.mv, 5), (.mv, 6), (.fin, 7), (.fin, 8), (.fin, 9)] (by decide +kernel) _ (List.Sublist.refl _) ?_
      refine gr_rd rfl rfl rfl (rd_move rfl) ?_
      refine gr_rd rfl rfl rfl (rd_move rfl) ?_
      refine gr_rd rfl rfl rfl (rd_nilCheck rfl) ?_
      refine gr_rd rfl rfl rfl (rd_fieldAddr Tryd.fa83_1 rfl) ?_
      refine gr_rd rfl rfl rfl (rd_load1 Tryd.to80 rfl (Cells.own (l := [.map (some bo), .map (some bw), .map (some bt)]) (T := 83) (z := (0, 0)) (by simp [baseL])) rfl) ?_
      refine gr_rd rfl rfl rfl (rd_loadA Tryd.ta34 rfl (Cells.own (l := encId ((waits s).getD k Nm.zero)) (T := 34) (z := (0, 0)) (by simp [baseL])) (Seg.all _) (encId_length _)) ?_
      refine gr_rd rfl rfl rfl (rd_lookup Tryd.tm Tryd.zop rfl rfl (by simp [baseL]) hM) ?_
      obtain ⟨q, pq, hq1, hq2, hq3, hq4⟩ := hlk ((waits s).getD k Nm.zero)
      rw [hq1]
      have hgq : Tr.get s.wait ((waits s).getD k Nm.zero) = some q := by
        rcases hq4 with h | ⟨h, _⟩
        · exact h
        · have h1 : has s.wait ((waits s).getD k Nm.zero) = true := has_mem.2 (mem_rising.1 (List.mem_of_getElem? (getD_at hlt)))
          rw [get_none.1 h] at h1; cases h1
      have hqs := hR.small _ (List.mem_append_right _ (get_mem hgq))
      refine gr_fin rfl rfl rfl (nx_call Tryd.en44 rfl (lacks_cc _ _ (hR.view (b := b) (bo := bo) (bw := bw) (bt := bt) (Cells.own (l := [.map (some bo), .map (some bw), .map (some bt)]) (T := 83) (z := (0, 0)) (by simp )) (by simp) (by simp) (by simp)) q pq hq3.any (by simp only at hqs; omega))) ?_; rintro v24 H' L' hle ⟨C2, hO2, rfl, rfl⟩
      obtain ⟨a2, c2, rfl, hc2⟩ := hO2.slice
      (refine gr_fin rfl rfl rfl (Rd.nx (rd_lenS Tryd.underlying29 rfl)) ?_; rintro _ _ _ _ ⟨rfl, rfl, rfl⟩)
      (refine gr_fin rfl rfl rfl (Rd.nx (rd_eql rfl rfl)) ?_; rintro _ _ _ _ ⟨rfl, rfl, rfl⟩)
      refine gr_nil ?_
      refine gk_then ?_
      refine gc_cond rfl (fun hcR4 => ?_) (fun hcR4 => ?_)
      · have hrd := ready_at hlt (by rw [readyB_get hgq, ← lacks_zero]; exact hcR4) hnr
        refine gc_seq ?_
        refine gc_seqr [(.mv, 0), (.nm, 1), (.mv, 2)] rfl ?_
        refine gr_rd rfl rfl rfl (rd_loadA Tryd.ta34 rfl (Cells.own (l := encId ((waits s).getD k Nm.zero)) (T := 34) (z := (0, 0)) (by simp [baseL])) (Seg.all _) (encId_length _)) ?_
        refine gr_nx0 rfl rfl (nx_store (vs := encId ((waits s).getD k Nm.zero)) Tryd.sizeOf34 rfl rfl rfl (encId_length _) (by repeat (first | exact Upd.here | exact Upd.appl (by assumption) | apply Upd.there | apply Upd.app)) (by simp) (encId_ones _)) ?_; rintro _ _ _ _ ⟨rfl, rfl, rfl⟩; refine ⟨trivial, ?_⟩
        rw [wr_all (by simp)]
        refine gr_rd rfl rfl rfl (rd_assign rfl) ?_
        refine gr_nil ?_
        refine gk_then ?_
        refine gc_ret ?_
        refine gk_ret_inBlock ?_
        refine gk_ret_then ?_
        refine gk_ret_then ?_
        refine gk_ret_inBlock ?_
        refine gk_ret_then ?_
        refine gk_result (L' := ((b, .cells [.map (some bo), .map (some bw), .map (some bt)].toArray 83 (0, 0)) :: (bo, ob) :: (bw, ow) :: (bt, ot) :: L)) (.inl rfl) _ (resC2 rfl rfl Tryd.ta34 (Cells.own (l := encId ((waits s).getD k Nm.zero)) (T := 34) (z := (0, 0)) (by simp )) (Seg.all _) (encId_length _) rfl) (by repeat (first | exact List.Sublist.refl _ | exact List.nil_sublist _ | apply List.Sublist.cons_cons | apply List.Sublist.cons | refine List.Sublist.trans ?_ (List.sublist_append_right _ _))) (Gh.le_refl _) ?_
        exact ⟨by rw [hrd]; rfl, rfl, rfl⟩
      · skip
        refine gc_skip ?_
        refine gk_inBlock ?_
        refine gk_then ?_
        refine gc_seqr [(.mv, 0), (.mv, 1)] rfl ?_
        (first | refine gr_rd rfl rfl rfl (rd_add rfl rfl (IntWalk.i64_in _ (by omega))) ?_ | refine gr_rd rfl rfl rfl (rd_add rfl rfl rfl) ?_)
        refine gr_rd rfl rfl rfl (rd_move rfl) ?_
        refine gr_nil ?_
        refine gk_drop (L' := ((b2, .cells (encId Nm.zero).toArray 34 (0, 0)) :: (C ++ ((b, .cells [.map (some bo), .map (some bw), .map (some bt)].toArray 83 (0, 0)) :: (bo, ob) :: (bw, ow) :: (bt, ot) :: L)))) (by repeat (first | exact List.Sublist.refl _ | apply List.Sublist.cons_cons | apply List.Sublist.cons | refine List.Sublist.trans ?_ (List.sublist_append_right _ _))) ?_
        refine gk_round (k + 1) (by omega) ⟨rfl, rfl, by omega, fun j hj => ?_⟩ (by repeat (first | exact Subs.nil | refine Subs.cons rfl ?_))
        by_cases e : j = k
        · subst e; rw [readyB_get hgq, ← lacks_zero]; exact hcR4
        · exact hnr j (by omega)
    · have hge : k = (waits s).length := by simp at hc0; omega
      have hrd := ready_not (s := s) (fun j hj => hnr j (by omega))
      refine gc_exit ?_
      refine gk_exit_then ?_
      refine gk_exit_then ?_
      refine gk_here ?_
      refine gk_then ?_
      refine gc_seq ?_
      refine gc_seqr [(.mv, 0), (.nm, 1), (.mv, 2)] rfl ?_
      refine gr_rd rfl rfl rfl (zero_build (zl := encId Nm.zero) Tryd.underlying34 Tryd.zeroValue34 rfl Tryd.sizeOf5) ?_
      refine gr_nx0 rfl rfl (nx_store (vs := encId Nm.zero) Tryd.sizeOf34 rfl rfl rfl (encId_length _) (by repeat (first | exact Upd.here | exact Upd.appl (by assumption) | apply Upd.there | apply Upd.app)) (by simp) (encId_ones _)) ?_; rintro _ _ _ _ ⟨rfl, rfl, rfl⟩; refine ⟨trivial, ?_⟩
      rw [wr_all (by simp)]
      refine gr_rd rfl rfl rfl (rd_assign rfl) ?_
      refine gr_nil ?_
      refine gk_then ?_
      refine gc_ret ?_
      refine gk_result (L' := ((b, .cells [.map (some bo), .map (some bw), .map (some bt)].toArray 83 (0, 0)) :: (bo, ob) :: (bw, ow) :: (bt, ot) :: L)) (.inl rfl) _ (resC2 rfl rfl Tryd.ta34 (Cells.own (l := encId Nm.zero) (T := 34) (z := (0, 0)) (by simp )) (Seg.all _) (encId_length _) rfl) (by repeat (first | exact List.Sublist.refl _ | exact List.nil_sublist _ | apply List.Sublist.cons_cons | apply List.Sublist.cons | refine List.Sublist.trans ?_ (List.sublist_append_right _ _))) (Gh.le_refl _) ?_
      exact ⟨by rw [hrd]; rfl, rfl, rfl⟩
end Go.Proofs.YtfhldfjknagidaaDoor
