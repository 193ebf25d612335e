/-
  Walks: two sets that are the same.
-/
import Derived.Test.YtfhldfjknagidaaDoorVKs22
set_option linter.unusedSimpArgs false
set_option linter.unusedVariables false
set_option linter.unnecessarySimpa false
set_option linter.all false
namespace Go.Proofs.YtfhldfjknagidaaDoor
open Go.VK Go.Tr
set_option maxRecDepth 20000
attribute [local irreducible] Go.Tr.sha
theorem names_length (s : DSet) : (names s).length = s.ops.length := by rw [names, rising_length, List.length_map]
theorem waits_length (s : DSet) : (waits s).length = s.wait.length := by rw [waits, rising_length, List.length_map]
theorem names_has {s : DSet} {n : Nm} : n ∈ names s ↔ has s.ops n = true := by rw [names, mem_rising, has_mem]
theorem dec_self {α : Type} [DecidableEq α] (a : α) : decide (a = a) = true := decide_eq_true rfl
/-- What the reference holds at a name's place. -/
theorem at_name {s : DSet} {ov : List (POp × Value)} (he : ov.map (·.1) = s.ops.map (·.2)) {n : Nm} (h : has s.ops n = true) : ∃ (k : Nat) (o : POp) (pv : Value), posOf (s.ops.map (·.1)) n = (k : Int) ∧ ov[k]? = some (o, pv) ∧ Tr.get s.ops n = some o := by
  obtain ⟨k, o, h1, h2, h3⟩ := posOf_get h
  have h4 := congrArg (fun l : List POp => l[k]?) he
  simp only [List.getElem?_map, h2, Option.map_some] at h4
  cases hk : ov[k]? with
  | none => rw [hk] at h4; cases h4
  | some p =>
    rw [hk] at h4
    obtain ⟨q, pv⟩ := p
    simp only [Option.map_some, Option.some.injEq] at h4
    subst h4
    exact ⟨k, q, pv, h1, hk, h3⟩

set_option maxHeartbeats 2000000 in
theorem same2_cc (H : Gh) (L : Chunks) {b bo bw bt r : Nat} {s : DSet} {ob ow ot : Obj} {v0 v1 v2 v3 : Value} {ov wv : List (POp × Value)} (hR : DRep H s ob ow ot) (hV : RView H L r s v0 v1 v2 v3 ov wv) (hz : s.ops.length + s.wait.length < 16777216) :
    CC Tryd.prog 22 #[pt b 0, pt r 0] H ((b, .cells [.map (some bo), .map (some bw), .map (some bt)].toArray 83 (0, 0)) :: (bo, ob) :: (bw, ow) :: (bt, ot) :: L) (fun v H' L' => v = .bool true ∧ H = H' ∧ ((b, .cells [.map (some bo), .map (some bw), .map (some bt)].toArray 83 (0, 0)) :: (bo, ob) :: (bw, ow) :: (bt, ot) :: L) = L') := by
  have hVm : ∀ (X : Chunks), (∀ x ∈ L, x ∈ X) → RView H X r s v0 v1 v2 v3 ov wv := fun X hX => hV.mono (Gh.le_refl _) hX
  have hnl := names_length s
  have hwl := waits_length s
  have hovl : ov.length = s.ops.length := by have := congrArg List.length hV.opsE; simpa using this
  have hsm : ∀ p ∈ s.ops, p.2.preds.length ≤ 32 := fun p hp => hR.small p (List.mem_append_left _ hp)
  refine cc_of Tryd.func22 rfl (Nat.le_of_ble_eq_true rfl) ?_
  simp only [Tryd.ntmps22]
  refine gc_seq ?_
  refine gc_seqr [(.mv, 0)] rfl ?_
  refine gr_rd rfl rfl rfl (rd_assign rfl) ?_
  refine gr_nil ?_
  refine gk_then ?_
  refine gc_seq ?_
  refine gc_seq ?_
  refine gc_seqr [(.mv, 0), (.nm, 1), (.mv, 2), (.nm, 3), (.nm, 4), (.mv, 5), (.mv, 6), (.mv, 7), (.nm, 8), (.mv, 9), (.nm, 10), (.nm, 11), (.mv, 12), (.mv, 13), (.mv, 14), (.mv, 15), (.nm, 16), (.mv, 17), (.nm, 18), (.nm, 19), (.mv, 20), (.mv, 21)] rfl ?_
  refine gr_rd rfl rfl rfl (rd_move rfl) ?_
  refine gr_nx rfl rfl rfl (nx_call Tryd.en14 rfl (names_cc _ _ hR (by omega))) ?_; rintro v10 H' L' hle ⟨C1, hO1, rfl, rfl⟩; refine ⟨trivial, ?_⟩
  refine gr_rd rfl rfl rfl (rd_move rfl) ?_
  refine gr_nx rfl rfl rfl (nx_call Tryd.en58 rfl (rnames_cc _ _ (hVm _ (by intro x hx; simp [hx])) (by omega))) ?_; rintro v12 H' L' hle ⟨C2, hO2, rfl, rfl⟩; refine ⟨trivial, ?_⟩
  refine gr_nx rfl rfl rfl (nx_call Tryd.en25 rfl (ids_cc _ _ _ _ _ _ (Ow.slT encId_length hO1 rfl (by rw [hnl]; omega) (by intro x hx; simp [hx])) (Ow.slT encId_length hO2 rfl (by rw [hnl]; omega) (by intro x hx; simp [hx])))) ?_; rintro v13 H' L' hle ⟨rfl, rfl, rfl⟩; refine ⟨trivial, ?_⟩
  rw [dec_self (names s)]
  refine gr_drop (L' := ((b, .cells [.map (some bo), .map (some bw), .map (some bt)].toArray 83 (0, 0)) :: (bo, ob) :: (bw, ow) :: (bt, ot) :: L)) (by repeat (first | exact List.Sublist.refl _ | exact List.nil_sublist _ | apply List.Sublist.cons_cons | apply List.Sublist.cons | refine List.Sublist.trans ?_ (List.sublist_append_right _ _))) ?_
  refine gr_rd rfl rfl rfl (rd_not rfl) ?_
  refine gr_rd rfl rfl rfl (rd_move rfl) ?_
  refine gr_rd rfl rfl rfl (rd_move rfl) ?_
  refine gr_nx rfl rfl rfl (nx_call Tryd.en21 rfl (heads_cc _ _ hR (by omega))) ?_; rintro v17 H' L' hle ⟨C3, hO3, rfl, rfl⟩; refine ⟨trivial, ?_⟩
  refine gr_rd rfl rfl rfl (rd_move rfl) ?_
  refine gr_nx rfl rfl rfl (nx_call Tryd.en59 rfl (rheads_cc _ _ (hVm _ (by intro x hx; simp [hx])) (by omega))) ?_; rintro v19 H' L' hle ⟨C4, hO4, rfl, rfl⟩; refine ⟨trivial, ?_⟩
  refine gr_nx rfl rfl rfl (nx_call Tryd.en25 rfl (ids_cc _ _ _ _ _ _ (Ow.slT encId_length hO3 rfl (Nat.lt_of_le_of_lt (heads_le s) (by omega)) (by intro x hx; simp [hx])) (Ow.slT encId_length hO4 rfl (Nat.lt_of_le_of_lt (heads_le s) (by omega)) (by intro x hx; simp [hx])))) ?_; rintro v20 H' L' hle ⟨rfl, rfl, rfl⟩; refine ⟨trivial, ?_⟩
  rw [dec_self (heads s)]
  refine gr_drop (L' := ((b, .cells [.map (some bo), .map (some bw), .map (some bt)].toArray 83 (0, 0)) :: (bo, ob) :: (bw, ow) :: (bt, ot) :: L)) (by repeat (first | exact List.Sublist.refl _ | exact List.nil_sublist _ | apply List.Sublist.cons_cons | apply List.Sublist.cons | refine List.Sublist.trans ?_ (List.sublist_append_right _ _))) ?_
  refine gr_rd rfl rfl rfl (rd_not rfl) ?_
  (first | refine gr_rd rfl rfl rfl (rd_pick_t rfl rfl) ?_ | refine gr_rd rfl rfl rfl (rd_pick_f rfl rfl) ?_)
  refine gr_rd rfl rfl rfl (rd_move rfl) ?_
  refine gr_rd rfl rfl rfl (rd_move rfl) ?_
  refine gr_nx rfl rfl rfl (nx_call Tryd.en18 rfl (waits_cc _ _ hR (by omega))) ?_; rintro v25 H' L' hle ⟨C5, hO5, rfl, rfl⟩; refine ⟨trivial, ?_⟩
  refine gr_rd rfl rfl rfl (rd_move rfl) ?_
  refine gr_nx rfl rfl rfl (nx_call Tryd.en24 rfl (rwaits_cc _ _ (hVm _ (by intro x hx; simp [hx])) (by omega))) ?_; rintro v27 H' L' hle ⟨C6, hO6, rfl, rfl⟩; refine ⟨trivial, ?_⟩
  refine gr_nx rfl rfl rfl (nx_call Tryd.en25 rfl (ids_cc _ _ _ _ _ _ (Ow.slT encId_length hO5 rfl (by rw [hwl]; omega) (by intro x hx; simp [hx])) (Ow.slT encId_length hO6 rfl (by rw [hwl]; omega) (by intro x hx; simp [hx])))) ?_; rintro v28 H' L' hle ⟨rfl, rfl, rfl⟩; refine ⟨trivial, ?_⟩
  rw [dec_self (waits s)]
  refine gr_drop (L' := ((b, .cells [.map (some bo), .map (some bw), .map (some bt)].toArray 83 (0, 0)) :: (bo, ob) :: (bw, ow) :: (bt, ot) :: L)) (by repeat (first | exact List.Sublist.refl _ | exact List.nil_sublist _ | apply List.Sublist.cons_cons | apply List.Sublist.cons | refine List.Sublist.trans ?_ (List.sublist_append_right _ _))) ?_
  refine gr_rd rfl rfl rfl (rd_not rfl) ?_
  (first | refine gr_rd rfl rfl rfl (rd_pick_t rfl rfl) ?_ | refine gr_rd rfl rfl rfl (rd_pick_f rfl rfl) ?_)
  refine gr_nil ?_
  refine gk_then ?_
  refine gc_no rfl ?_
  refine gc_skip ?_
  refine gk_then ?_
  refine gc_seq ?_
  refine gc_seq ?_
  refine gc_seqr [(.mv, 0), (.nm, 1), (.mv, 2), (.mv, 3)] rfl ?_
  refine gr_rd rfl rfl rfl (rd_move rfl) ?_
  refine gr_nx rfl rfl rfl (nx_call Tryd.en58 rfl (rnames_cc _ _ (hVm _ (by intro x hx; simp [hx])) (by omega))) ?_; rintro v32 H' L' hle ⟨Cn, hOn, rfl, rfl⟩; refine ⟨trivial, ?_⟩
  obtain ⟨An, cn, rfl, hcn⟩ := hOn.slice
  obtain ⟨_, bn, on, cn2, ln, hne, hcn2, hnn, hn0, hn1, hn2⟩ := (Ow.slT (H := H) (L := (Cn ++ ((b, .cells [.map (some bo), .map (some bw), .map (some bt)].toArray 83 (0, 0)) :: (bo, ob) :: (bw, ow) :: (bt, ot) :: L))) (xs := names s) encId_length hOn rfl (by omega) (by intro x hx; simp [hx]))
  cases hne
  refine gr_rd rfl rfl rfl (rd_lenS Tryd.underlying29 rfl) ?_
  refine gr_rd rfl rfl rfl (rd_move rfl) ?_
  refine gr_nil ?_
  refine gk_then ?_
  refine gc_block ?_
  refine gc_loop (fun t : Nat => [(0, pt b 0), (1, pt r 0), (32, .slice An (names s).length cn), (33, i64 (names s).length), (34, i64 t)]) (fun t H1 L1 => H = H1 ∧ (Cn ++ ((b, .cells [.map (some bo), .map (some bw), .map (some bt)].toArray 83 (0, 0)) :: (bo, ob) :: (bw, ow) :: (bt, ot) :: L)) = L1 ∧ t ≤ (names s).length) (fun t => (names s).length - t) (0) ?_ (by repeat (first | exact Subs.nil | refine Subs.cons rfl ?_)) ?_
  · exact ⟨rfl, rfl, Nat.zero_le _⟩
  · rintro k H1 L1 ⟨rfl, rfl, hk⟩
    show GC _ _ _ _ [(0, pt b 0), (1, pt r 0), (32, .slice An (names s).length cn), (33, i64 (names s).length), (34, i64 k)] H (Cn ++ ((b, .cells [.map (some bo), .map (some bw), .map (some bt)].toArray 83 (0, 0)) :: (bo, ob) :: (bw, ow) :: (bt, ot) :: L))
    refine gc_seq ?_
    refine gc_seqr [(.mv, 0)] rfl ?_
    refine gr_rd rfl rfl rfl (rd_lss rfl rfl) ?_
    refine gr_nil ?_
    refine gk_then ?_
    refine gc_seq ?_
    refine gc_cond rfl (fun hc1 => ?_) (fun hc1 => ?_)
    · have hlt : k < (names s).length := by simpa using hc1
      obtain ⟨hAe, hca, hsa⟩ := ids_at2 (i := (k : Int)) hn1 hn2 hlt rfl
      obtain ⟨nk, hnk⟩ : ∃ nk, ((names s).getD k Nm.zero) = nk := ⟨_, rfl⟩
      rw [hnk] at hsa
      have hhas : has s.ops nk = true := by
        rw [← hnk]
        exact names_has.1 (List.mem_of_getElem? (getD_at hlt))
      obtain ⟨q, oq, pq, hp1, hp2, hp3⟩ := at_name hV.opsE hhas
      obtain ⟨⟨A0, b0, o0, c0, l0, he0, hc0, hn0', ho0, ho1, ho2⟩, hop⟩ := (hVm (Cn ++ ((b, .cells [.map (some bo), .map (some bw), .map (some bt)].toArray 83 (0, 0)) :: (bo, ob) :: (bw, ow) :: (bt, ot) :: L)) (by intro x hx; simp [hx])).ops
      obtain ⟨hA0, hc01, hs0⟩ := slt_at (i := (q : Int)) ho1 ho2 hp2 rfl
      have hq := (hop _ (List.mem_of_getElem? hp2))
      simp only at hq
      have hql := (List.getElem?_eq_some_iff.1 hp2).1
      refine gc_skip ?_
      refine gk_then ?_
      refine gc_seq ?_
      refine gc_block ?_
      refine gc_seq ?_
      refine gc_seqr [(.mv, 0), (.mv, 1), (.nm, 2), (.nm, 3)] rfl ?_
      refine gr_rd rfl rfl rfl (rd_indexS Tryd.underlying29 Tryd.sizeOf34 rfl rfl hAe (by omega) (by omega)) ?_
      refine gr_rd rfl rfl rfl (rd_loadA Tryd.ta34 rfl hca hsa (encId_length _)) ?_
      refine gr_nx rfl rfl rfl (nx_alloc Tryd.zeroValue34 rfl) ?_; rintro _ _ _ _ ⟨b6, rfl, rfl, rfl⟩; refine ⟨trivial, ?_⟩
      refine gr_nx0 rfl rfl (nx_store (vs := encId nk) Tryd.sizeOf34 rfl rfl rfl (encId_length _) (by repeat (first | exact Upd.here | exact Upd.appl (by assumption) | apply Upd.there | apply Upd.app)) (by simp) (encId_ones _)) ?_; rintro _ _ _ _ ⟨rfl, rfl, rfl⟩; refine ⟨trivial, ?_⟩
      rw [wr_all (by simp)]
      refine gr_nil ?_
      refine gk_then ?_
      refine gc_seq ?_
      refine gc_seqr [(.mv, 0), (.mv, 1), (.nm, 2), (.mv, 3), (.mv, 4), (.mv, 5), (.nm, 6), (.nm, 7), (.mv, 8)] rfl ?_
      refine gr_rd rfl rfl rfl (rd_move rfl) ?_
      refine gr_rd rfl rfl rfl (rd_loadA Tryd.ta34 rfl (Cells.own (l := encId nk) (T := 34) (z := (0, 0)) (by simp [baseL])) (Seg.all _) (encId_length _)) ?_
      refine gr_nx rfl rfl rfl (nx_call Tryd.en15 rfl (get_cc _ _ (hR.view (b := b) (bo := bo) (bw := bw) (bt := bt) (Cells.own (l := [.map (some bo), .map (some bw), .map (some bt)]) (T := 83) (z := (0, 0)) (by simp )) (by simp) (by simp) (by simp)) hsm nk)) ?_; rintro v41 H' L' hle ⟨C7, u, rfl, hO7, rfl, rfl⟩; refine ⟨trivial, ?_⟩
      rw [hp3, Option.getD_some] at hO7
      rw [hp3, hhas, Option.getD_some]
      refine gr_rd rfl rfl rfl (rd_move rfl) ?_
      refine gr_rd rfl rfl rfl (rd_extract rfl rfl) ?_
      refine gr_rd rfl rfl rfl (rd_extract rfl rfl) ?_
      refine gr_nx rfl rfl rfl (nx_alloc Tryd.zeroValue38 rfl) ?_; rintro _ _ _ _ ⟨b7, rfl, rfl, rfl⟩; refine ⟨trivial, ?_⟩
      refine gr_nx0 rfl rfl (nx_store (vs := encOp oq u) Tryd.sizeOf38 rfl rfl rfl (encOp_length _ _) (by repeat (first | exact Upd.here | exact Upd.appl (by assumption) | apply Upd.there | apply Upd.app)) (by simp) (encOp_ones _ hO7.one)) ?_; rintro _ _ _ _ ⟨rfl, rfl, rfl⟩; refine ⟨trivial, ?_⟩
      rw [wr_all (by simp)]
      refine gr_rd rfl rfl rfl (rd_assign rfl) ?_
      refine gr_nil ?_
      refine gk_then ?_
      refine gc_seq ?_
      refine gc_draw Tryd.mixed [(.mv, 0), (.mv, 1), (.mv, 2), (.mv, 3), (.mv, 4), (.mv, 5), (.mv, 6), (.mv, 7), (.mv, 8), (.mv, 9), (.nm, 10), (.mv, 11), (.mv, 12), (.fin, 13), (.fin, 14), (.fin, 15)] (by decide +kernel) _ (List.Sublist.refl _) ?_
      refine gr_rd rfl rfl rfl (rd_move rfl) ?_
      refine gr_rd rfl rfl rfl (rd_neq rfl rfl) ?_
      refine gr_rd rfl rfl rfl (rd_move rfl) ?_
      refine gr_rd rfl rfl rfl (rd_loadA Tryd.ta38 rfl (Cells.own (l := encOp oq u) (T := 38) (z := (0, 0)) (by simp [baseL])) (Seg.all _) (encOp_length _ _)) ?_
      refine gr_rd rfl rfl rfl (rd_move rfl) ?_
      refine gr_rd rfl rfl rfl (rd_nilCheck rfl) ?_
      refine gr_rd rfl rfl rfl (rd_fieldAddr Tryd.fa48_0 rfl) ?_
      refine gr_rd rfl rfl rfl (rd_load1 Tryd.to25 rfl ((hVm _ (by intro x hx; simp [baseL, hx])).cells) (by rw [he0]; rfl)) ?_
      refine gr_rd rfl rfl rfl (rd_move rfl) ?_
      refine gr_rd rfl rfl rfl (rd_loadA Tryd.ta34 rfl (Cells.own (l := encId nk) (T := 34) (z := (0, 0)) (by simp [baseL])) (Seg.all _) (encId_length _)) ?_
      refine gr_nx rfl rfl rfl (nx_call Tryd.en23 rfl (rat_cc _ _ (hVm _ (by intro x hx; simp [hx])) nk)) ?_; rintro v54 H' L' hle ⟨rfl, rfl, rfl⟩; refine ⟨⟨(by first | exact Gh.le_refl _ | assumption | exact Gh.le_trans (by assumption) (by assumption)), (by repeat (first | exact List.Sublist.refl _ | exact List.nil_sublist _ | apply List.Sublist.cons_cons | apply List.Sublist.cons | apply List.Sublist.append (List.Sublist.refl _) | refine List.Sublist.trans ?_ (List.sublist_append_right _ _)))⟩, ?_⟩
      rw [hp1]
      refine gr_rd rfl rfl rfl (rd_indexS Tryd.underlying25 Tryd.sizeOf38 rfl rfl hA0 (by omega) (by omega)) ?_
      refine gr_rd rfl rfl rfl (rd_loadA Tryd.ta38 rfl (hc01.mono (Gh.le_refl _) (by intro x hx; simp [baseL, hx])) hs0 (encOpV_length _)) ?_
      refine gr_fin rfl rfl rfl (nx_call Tryd.en20 rfl (same_cc _ _ oq oq u pq (Ow.slT encId_length hO7 rfl (Nat.lt_of_le_of_lt (hsm _ (get_mem hp3)) (by decide)) (by intro x hx; simp [hx])) (hq.any))) ?_; rintro v57 H' L' hle ⟨rfl, rfl, rfl⟩
      rw [dec_self oq]
      (refine gr_fin rfl rfl rfl (Rd.nx (rd_not rfl)) ?_; rintro _ _ _ _ ⟨rfl, rfl, rfl⟩)
      (first | (refine gr_fin rfl rfl rfl (Rd.nx (rd_pick_t rfl rfl)) ?_; rintro _ _ _ _ ⟨rfl, rfl, rfl⟩) | (refine gr_fin rfl rfl rfl (Rd.nx (rd_pick_f rfl rfl)) ?_; rintro _ _ _ _ ⟨rfl, rfl, rfl⟩))
      refine gr_nil ?_
      refine gk_then ?_
      refine gc_no rfl ?_
      refine gc_skip ?_
      refine gk_inBlock ?_
      refine gk_then ?_
      refine gc_seqr [(.mv, 0), (.mv, 1)] rfl ?_
      (first | refine gr_rd rfl rfl rfl (rd_add rfl rfl (IntWalk.i64_in _ (by omega))) ?_ | refine gr_rd rfl rfl rfl (rd_add rfl rfl rfl) ?_)
      refine gr_rd rfl rfl rfl (rd_move rfl) ?_
      refine gr_nil ?_
      refine gk_drop (L' := (Cn ++ ((b, .cells [.map (some bo), .map (some bw), .map (some bt)].toArray 83 (0, 0)) :: (bo, ob) :: (bw, ow) :: (bt, ot) :: L))) (by repeat (first | exact List.Sublist.refl _ | exact List.nil_sublist _ | apply List.Sublist.cons_cons | apply List.Sublist.cons | refine List.Sublist.trans ?_ (List.sublist_append_right _ _))) ?_
      refine gk_round (k + 1) ?_ ⟨rfl, rfl, by omega⟩ (by repeat (first | exact Subs.nil | refine Subs.cons rfl ?_))
      show (names s).length - (k + 1) < (names s).length - k
      omega
    · skip
      refine gc_exit ?_
      refine gk_exit_then ?_
      refine gk_exit_then ?_
      refine gk_here ?_
      refine gk_then ?_
      refine gc_seq ?_
      refine gc_seqr [(.mv, 0)] rfl ?_
      refine gr_rd rfl rfl rfl (rd_assign rfl) ?_
      refine gr_nil ?_
      refine gk_then ?_
      refine gc_ret ?_
      refine gk_drop (L' := ((b, .cells [.map (some bo), .map (some bw), .map (some bt)].toArray 83 (0, 0)) :: (bo, ob) :: (bw, ow) :: (bt, ot) :: L)) (by repeat (first | exact List.Sublist.refl _ | exact List.nil_sublist _ | apply List.Sublist.cons_cons | apply List.Sublist.cons | refine List.Sublist.trans ?_ (List.sublist_append_right _ _))) ?_
      refine gk_result (L' := ((b, .cells [.map (some bo), .map (some bw), .map (some bt)].toArray 83 (0, 0)) :: (bo, ob) :: (bw, ow) :: (bt, ot) :: L)) (.inl rfl) _ (res1 rfl rfl) (List.Sublist.refl _) (Gh.le_refl _) ?_
      exact ⟨rfl, rfl, rfl⟩
end Go.Proofs.YtfhldfjknagidaaDoor
