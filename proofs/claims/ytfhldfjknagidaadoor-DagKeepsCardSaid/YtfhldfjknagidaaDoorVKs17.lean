/-
  Walks: the program's set of operations: what only looks; clones; a new set; sorted names.
-/
import Derived.Test.YtfhldfjknagidaaDoorVKw
set_option linter.unusedSimpArgs false
set_option linter.unusedVariables false
set_option linter.unnecessarySimpa false
set_option linter.all false
namespace Go.Proofs.YtfhldfjknagidaaDoor
open Go.VK Go.Tr
set_option maxRecDepth 20000
attribute [local irreducible] Go.Tr.sha
theorem Tryd.tmi : TMap Tryd.prog 81 34 3 5 := ⟨Tryd.underlying81, Tryd.tb34⟩
theorem Tryd.zop (w : World) : (zeroValue 38).run Tryd.prog w = .ok (ag (encOp zeroOp nilS)) w := Tryd.zeroValue38 w
theorem Tryd.zint (w : World) : (zeroValue 3).run Tryd.prog w = .ok (i64 0) w := Tryd.zeroValue3 w
/-- The three maps say what the set holds. -/
structure DRep (H : Gh) (s : DSet) (ob ow ot : Obj) : Prop where
  ops : EntO H ob s.ops
  wait : EntO H ow s.wait
  cnt : CntO ot (cnt s.ops)
  nd : (s.ops.map (·.1) ++ s.wait.map (·.1)).Nodup
  small : ∀ p ∈ s.ops ++ s.wait, p.2.preds.length ≤ 32
theorem DRep.up {H H' : Gh} {s : DSet} {ob ow ot : Obj} (h : DRep H s ob ow ot) (hH : H ≤ H') : DRep H' s ob ow ot := ⟨h.ops.up hH, h.wait.up hH, h.cnt, h.nd, h.small⟩
/-- A set as it is looked at. -/
structure DView (H : Gh) (L : Chunks) (b bo bw bt : Nat) (s : DSet) (ob ow ot : Obj) : Prop where
  cells : Cells H L b [.map (some bo), .map (some bw), .map (some bt)]
  mo : (bo, ob) ∈ L
  mw : (bw, ow) ∈ L
  mt : (bt, ot) ∈ L
  ops : EntO H ob s.ops
  wait : EntO H ow s.wait
  cnt : CntO ot (cnt s.ops)
theorem DView.mono {H H' : Gh} {L L' : Chunks} {b bo bw bt : Nat} {s : DSet} {ob ow ot : Obj} (h : DView H L b bo bw bt s ob ow ot) (hH : H ≤ H') (hL : ∀ x ∈ L, x ∈ L') : DView H' L' b bo bw bt s ob ow ot :=
  ⟨h.cells.mono hH hL, hL _ h.mo, hL _ h.mw, hL _ h.mt, h.ops.up hH, h.wait.up hH, h.cnt⟩
/-- What a look-up of an operation gives, whatever it finds. -/
theorem look_op {H : Gh} {o : Obj} {l : List (Nm × POp)} (h : EntO H o l) : ∃ m, MapO o m ∧ m.map (·.1) = l.map (·.1) ∧ ∀ n, ∃ q pq, (VK.look m n).getD (ag (encOp zeroOp nilS)) = ag (encOp q pq) ∧ (VK.look m n).isSome = has l n ∧ Ids H [] pq q.preds ∧
    (Tr.get l n = some q ∨ (Tr.get l n = none ∧ q = zeroOp ∧ pq = nilS)) := by
  obtain ⟨m, h1, h2, h3⟩ := h.look
  refine ⟨m, h1, h2, fun n => ?_⟩
  rcases h3 n with ⟨h4, h5⟩ | ⟨op, pv, h4, h5, h6⟩
  · exact ⟨zeroOp, nilS, by rw [h5]; rfl, by rw [h5]; exact (get_none.1 h4).symm, SlT.nil, .inr ⟨h4, rfl, rfl⟩⟩
  · exact ⟨op, pv, by rw [h5]; rfl, by rw [h5, ← get_isSome, h4]; rfl, h6, .inl h4⟩
theorem deepest_step2 {s : DSet} {pq : Value} {l : List Nm} {k : Nat} {n : Nm} {q : POp} (hn : l[k]? = some n) (ho : Tr.get s.ops n = some q ∨ (Tr.get s.ops n = none ∧ q = zeroOp ∧ pq = nilS)) : deepest s (l.take (k + 1)) = max (deepest s (l.take k)) q.depth := by
  rw [List.take_add_one, hn]
  rcases ho with ho | ⟨ho, rfl, _⟩ <;> simp [deepest, List.foldl_append, ho, zeroOp]
def lacksOf (s : DSet) (o : POp) : List Nm := o.preds.filter fun n => !has s.ops n
theorem lacks_whole (s : DSet) (o : POp) : decide ((0 : Int) < ((lacksOf s o).length : Int)) = !whole s o := by
  have : (lacksOf s o).length = 0 ↔ whole s o = true := by
    rw [List.length_eq_zero_iff, lacksOf, List.filter_eq_nil_iff, whole, List.all_eq_true]
    simp
  cases hw : whole s o with
  | true => have := this.2 hw; rw [this]; rfl
  | false =>
    have h0 : (lacksOf s o).length ≠ 0 := fun h => by rw [this.1 h] at hw; cases hw
    simp only [Bool.not_false, decide_eq_true_eq]; omega
theorem lacks_le (s : DSet) (o : POp) : (lacksOf s o).length ≤ o.preds.length := List.length_filter_le _ _

theorem collect_cc (H : Gh) (LB : Chunks) {Bm bm : Nat} {om : Obj} {m : List (Nm × Value)} (hM : MapO om m) (hN : m.length < 16777216) :
    CC Tryd.prog 74 #[.func (.func 75) #[] #[pt Bm 0]] H ((Bm, .cells [.map (some bm)].toArray 80 (0, 0)) :: (bm, om) :: LB) (fun v H' L' => ∃ (xs : List Nm) (C : Chunks), xs.Perm (m.map (·.1)) ∧ Ow 34 32 C v xs.length (xs.flatMap encId) ∧ H = H' ∧ C ++ ((Bm, .cells [.map (some bm)].toArray 80 (0, 0)) :: (bm, om) :: LB) = L') := by
  refine cc_of Tryd.func74 rfl (Nat.le_of_ble_eq_true rfl) ?_
  simp only [Tryd.ntmps74]
  refine gc_seq ?_
  refine gc_seqr [(.mv, 0)] rfl ?_
  refine gr_rd rfl rfl rfl (rd_assign rfl) ?_
  refine gr_nil ?_
  refine gk_then ?_
  refine gc_seq ?_
  refine gc_seqr [(.mv, 0), (.nm, 1), (.mv, 2)] rfl ?_
  refine gr_rd rfl rfl rfl (rd_move rfl) ?_
  refine gr_nx rfl rfl rfl (nx_call Tryd.en95 rfl (append_cc _ _ hM hN)) ?_; rintro v4 H' L' hle ⟨xs, C, hpm, hO, rfl, rfl⟩; refine ⟨trivial, ?_⟩
  refine gr_rd rfl rfl rfl (rd_assign rfl) ?_
  refine gr_nil ?_
  refine gk_then ?_
  refine gc_ret ?_
  refine gk_result (L' := C ++ ((Bm, .cells [.map (some bm)].toArray 80 (0, 0)) :: (bm, om) :: LB)) (.inl rfl) _ (res1 rfl rfl) (by repeat (first | exact List.Sublist.refl _ | apply List.Sublist.cons_cons | apply List.Sublist.cons | apply List.Sublist.append (List.Sublist.refl _) | refine List.Sublist.trans ?_ (List.sublist_append_right _ _))) (by first | exact Gh.le_refl _ | assumption | exact Gh.le_trans (by assumption) (by assumption)) ?_
  exact ⟨xs, C, hpm, hO, rfl, rfl⟩
theorem sorted_cc (H : Gh) (LB : Chunks) {Bm bm : Nat} {om : Obj} {m : List (Nm × Value)} (hM : MapO om m) (hN : m.length < 16777216) :
    CC Tryd.prog 48 #[.func (.func 75) #[] #[pt Bm 0], .func (.func 50) #[] #[]] H ((Bm, .cells [.map (some bm)].toArray 80 (0, 0)) :: (bm, om) :: LB) (fun v H' L' => ∃ (C : Chunks), Ow 34 32 C v m.length ((rising (m.map (·.1))).flatMap encId) ∧ H = H' ∧ C ++ ((Bm, .cells [.map (some bm)].toArray 80 (0, 0)) :: (bm, om) :: LB) = L') := by
  refine cc_of Tryd.func48 rfl (Nat.le_of_ble_eq_true rfl) ?_
  simp only [Tryd.ntmps48]
  refine gc_seq ?_
  refine gc_seqr [(.mv, 0)] rfl ?_
  refine gr_rd rfl rfl rfl (rd_assign rfl) ?_
  refine gr_nil ?_
  refine gk_then ?_
  refine gc_seq ?_
  refine gc_seqr [(.mv, 0), (.nm, 1), (.mv, 2)] rfl ?_
  refine gr_rd rfl rfl rfl (rd_move rfl) ?_
  refine gr_nx rfl rfl rfl (nx_call Tryd.en74 rfl (collect_cc _ _ hM hN)) ?_; rintro v7 H' L' hle ⟨xs, C, hpm, hO, rfl, rfl⟩; refine ⟨trivial, ?_⟩
  have hxl : xs.length = m.length := by have := hpm.length_eq; simpa using this
  refine gr_rd rfl rfl rfl (rd_assign rfl) ?_
  refine gr_nil ?_
  refine gk_then ?_
  refine gc_seq ?_
  refine gc_seqr [(.mv, 0), (.mv, 1), (.nm, 2)] rfl ?_
  refine gr_rd rfl rfl rfl (rd_move rfl) ?_
  refine gr_rd rfl rfl rfl (rd_move rfl) ?_
  refine gr_nx rfl rfl rfl (nx_call Tryd.en70 rfl (sortFunc_cc _ _ hO (by omega))) ?_; rintro v10 H' L' hle ⟨C2, hO2, rfl, rfl, rfl⟩; refine ⟨trivial, ?_⟩
  refine gr_nil ?_
  refine gk_then ?_
  refine gc_seq ?_
  refine gc_seqr [(.mv, 0), (.mv, 1)] rfl ?_
  refine gr_rd rfl rfl rfl (rd_move rfl) ?_
  refine gr_rd rfl rfl rfl (rd_assign rfl) ?_
  refine gr_nil ?_
  refine gk_then ?_
  refine gc_ret ?_
  refine gk_result (L' := C2 ++ ((Bm, .cells [.map (some bm)].toArray 80 (0, 0)) :: (bm, om) :: LB)) (.inl rfl) _ (res1 rfl rfl) (by repeat (first | exact List.Sublist.refl _ | apply List.Sublist.cons_cons | apply List.Sublist.cons | apply List.Sublist.append (List.Sublist.refl _) | refine List.Sublist.trans ?_ (List.sublist_append_right _ _))) (by first | exact Gh.le_refl _ | assumption | exact Gh.le_trans (by assumption) (by assumption)) ?_
  exact ⟨C2, by rw [← rising_of_perm hpm, ← hxl]; exact hO2, rfl, rfl⟩
theorem sclone_cc (H : Gh) (L : Chunks) (v : Value) (ps : List Nm) (hp : Ids H L v ps) (hb : ps.length < 16777216) :
    CC Tryd.prog 63 #[v] H L (fun u H' L' => ∃ C, Ow 34 32 C u ps.length (ps.flatMap encId) ∧ H = H' ∧ C ++ L = L') := by
  obtain ⟨A, bv, ov, cv, lv, rfl, hcv, hnv, hv0, hv1, hv2⟩ := hp
  refine cc_of Tryd.func63 rfl (Nat.le_of_ble_eq_true rfl) ?_
  simp only [Tryd.ntmps63]
  refine gc_seq ?_
  refine gc_seqr [(.mv, 0)] rfl ?_
  refine gr_rd rfl rfl rfl (rd_assign rfl) ?_
  refine gr_nil ?_
  refine gk_then ?_
  refine gc_seq ?_
  refine gc_seq ?_
  refine gc_seqr [(.mv, 0), (.mv, 1)] rfl ?_
  refine gr_rd rfl rfl rfl (rd_move rfl) ?_
  refine gr_rd rfl rfl rfl (rd_sliceNil Tryd.underlying29 rfl rfl) ?_
  refine gr_nil ?_
  refine gk_then ?_
  refine gc_cond rfl (fun hc0 => ?_) (fun hc0 => ?_)
  · have hA : A = none := by simpa using hc0
    have hps := (hv0 hA).1
    subst hps
    refine gc_seq ?_
    refine gc_seqr [(.mv, 0)] rfl ?_
    refine gr_rd rfl rfl rfl (rd_assign rfl) ?_
    refine gr_nil ?_
    refine gk_then ?_
    refine gc_ret ?_
    refine gk_ret_then ?_
    refine gk_result (L' := [] ++ L) (.inl rfl) _ (res1 rfl rfl) (by repeat (first | exact List.Sublist.refl _ | apply List.Sublist.cons_cons | apply List.Sublist.cons | apply List.Sublist.append (List.Sublist.refl _) | refine List.Sublist.trans ?_ (List.sublist_append_right _ _))) (Gh.le_refl _) ?_
    exact ⟨[], Ow.nil, rfl, rfl⟩
  · skip
    refine gc_skip ?_
    refine gk_then ?_
    refine gc_seq ?_
    refine gc_seqr [(.nm, 0), (.mv, 1), (.nm, 2), (.mv, 3)] rfl ?_
    refine gr_nx rfl rfl rfl (nx_buildSlice (vs := []) Tryd.underlying29 Tryd.sizeOf34 Tryd.zeroValue34 rfl rfl rfl rfl (fun v hv => by cases hv) rfl rfl rfl) ?_; rintro _ _ _ _ ⟨b5, rfl, rfl, rfl⟩; refine ⟨trivial, ?_⟩
    refine gr_rd rfl rfl rfl (rd_move rfl) ?_
    refine gr_nx rfl rfl rfl (nx_append (m := ps.length) Tryd.app29_29 rfl rfl (Ow.new (b := b5) (e := 34) (k := 32) (n := 0) (cs := []) rfl) (by repeat (first | exact Pick.here | exact Pick.one | apply Pick.there | apply Pick.app)) (SlT.srcN encId_length encId_ones (SlT.mono ⟨A, bv, ov, cv, lv, rfl, hcv, hnv, hv0, hv1, hv2⟩ (Gh.le_refl _) (fun x hx => List.mem_cons_of_mem _ hx)) rfl) (by omega) (by omega)) ?_; rintro v7 H' L' hle ⟨C, hO, _, rfl, rfl⟩; refine ⟨trivial, ?_⟩
    refine gr_rd rfl rfl rfl (rd_assign rfl) ?_
    refine gr_nil ?_
    refine gk_then ?_
    refine gc_ret ?_
    refine gk_result (L' := C ++ L) (.inl rfl) _ (res1 rfl rfl) (by repeat (first | exact List.Sublist.refl _ | apply List.Sublist.cons_cons | apply List.Sublist.cons | apply List.Sublist.append (List.Sublist.refl _) | refine List.Sublist.trans ?_ (List.sublist_append_right _ _))) (Gh.le_refl _) ?_
    exact ⟨C, by simpa using hO, rfl, rfl⟩
theorem clone_cc (H : Gh) (L : Chunks) (o : POp) (pv : Value) (hp : Ids H L pv o.preds) (hb : o.preds.length < 16777216) :
    CC Tryd.prog 45 #[ag (encOp o pv)] H L (fun v H' L' => ∃ C u, v = ag (encOp o u) ∧ Ow 34 32 C u o.preds.length (o.preds.flatMap encId) ∧ H = H' ∧ C ++ L = L') := by
  refine cc_of Tryd.func45 rfl (Nat.le_of_ble_eq_true rfl) ?_
  simp only [Tryd.ntmps45]
  refine gc_seq ?_
  refine gc_seqr [(.nm, 0), (.nm, 1)] rfl ?_
  refine gr_nx rfl rfl rfl (nx_box rfl rfl) ?_; rintro _ _ _ _ ⟨b1, rfl, rfl, rfl⟩; refine ⟨trivial, ?_⟩
  refine gr_nx rfl rfl rfl (nx_alloc Tryd.zeroValue38 rfl) ?_; rintro _ _ _ _ ⟨b2, rfl, rfl, rfl⟩; refine ⟨trivial, ?_⟩
  refine gr_nil ?_
  refine gk_then ?_
  refine gc_seq ?_
  refine gc_seqr [(.mv, 0), (.mv, 1), (.nm, 2), (.mv, 3), (.nm, 4)] rfl ?_
  refine gr_rd rfl rfl rfl (rd_fieldAddr Tryd.fa38_3 rfl) ?_
  refine gr_rd rfl rfl rfl (rd_load1 Tryd.to29 rfl (Cells.own (l := encOp o pv) (T := 38) (z := (0, 0)) (by simp [baseL])) (encOp_37 _ _)) ?_
  refine gr_nx rfl rfl rfl (nx_call Tryd.en63 rfl (sclone_cc _ _ _ o.preds (hp.mono (Gh.le_refl _) (by intro x hx; simp [hx])) hb)) ?_; rintro v5 H' L' hle ⟨C, hO, rfl, rfl⟩; refine ⟨trivial, ?_⟩
  refine gr_rd rfl rfl rfl (rd_fieldAddr Tryd.fa38_3 rfl) ?_
  refine gr_nx0 rfl rfl (nx_store (vs := [v5]) Tryd.sizeOf29 rfl rfl (cells1 (Ow.one hO)) rfl (by repeat (first | exact Upd.here | exact Upd.appl (by assumption) | apply Upd.there | apply Upd.app)) (by simp) (oneCells_cons (Ow.one hO) oneCells_nil)) ?_; rintro _ _ _ _ ⟨rfl, rfl, rfl⟩; refine ⟨trivial, ?_⟩
  rw [encOp_set_preds _ _ _ o.preds, encOp_preds]
  refine gr_nil ?_
  refine gk_then ?_
  refine gc_seq ?_
  refine gc_seqr [(.mv, 0), (.nm, 1)] rfl ?_
  refine gr_rd rfl rfl rfl (rd_loadA Tryd.ta38 rfl (Cells.own (l := encOp o v5) (T := 38) (z := (0, 0)) (by simp [baseL])) (Seg.all _) (encOp_length _ _)) ?_
  refine gr_nx0 rfl rfl (nx_store (vs := encOp o v5) Tryd.sizeOf38 rfl rfl rfl (encOp_length _ _) (by repeat (first | exact Upd.here | exact Upd.appl (by assumption) | apply Upd.there | apply Upd.app)) (by simp) (encOp_ones _ hO.one)) ?_; rintro _ _ _ _ ⟨rfl, rfl, rfl⟩; refine ⟨trivial, ?_⟩
  rw [wr_all (by simp)]
  refine gr_nil ?_
  refine gk_then ?_
  refine gc_ret ?_
  refine gk_result (L' := C ++ L) (.inl rfl) _ (resC1 rfl rfl Tryd.ta38 (Cells.own (l := encOp o v5) (T := 38) (z := (0, 0)) (by simp )) (Seg.all _) (encOp_length _ _)) (by repeat (first | exact List.Sublist.refl _ | apply List.Sublist.cons_cons | apply List.Sublist.cons | apply List.Sublist.append (List.Sublist.refl _) | refine List.Sublist.trans ?_ (List.sublist_append_right _ _))) (by first | exact Gh.le_refl _ | assumption | exact Gh.le_trans (by assumption) (by assumption)) ?_
  exact ⟨C, v5, rfl, hO, rfl, rfl⟩
theorem new_cc (H : Gh) (L : Chunks) : CC Tryd.prog 12 #[] H L (fun v H' L' => ∃ b bo bw bt ob ow ot, v = pt b 0 ∧ DRep H DSet.empty ob ow ot ∧ H = H' ∧ ((b, .cells [.map (some bo), .map (some bw), .map (some bt)].toArray 83 (0, 0)) :: (bo, ob) :: (bw, ow) :: (bt, ot) :: L) = L') := by
  refine cc_of Tryd.func12 rfl (Nat.le_of_ble_eq_true rfl) ?_
  simp only [Tryd.ntmps12]
  refine gc_seq ?_
  refine gc_seqr [(.mv, 0)] rfl ?_
  refine gr_rd rfl rfl rfl (rd_assign rfl) ?_
  refine gr_nil ?_
  refine gk_then ?_
  refine gc_seq ?_
  refine gc_seqr [(.nm, 0), (.nm, 1), (.nm, 2), (.mv, 3), (.nm, 4), (.mv, 5)] rfl ?_
  refine gr_nx rfl rfl rfl nx_makeMap ?_; rintro _ _ _ _ ⟨b1, rfl, rfl, rfl⟩; refine ⟨trivial, ?_⟩
  refine gr_nx rfl rfl rfl nx_makeMap ?_; rintro _ _ _ _ ⟨b2, rfl, rfl, rfl⟩; refine ⟨trivial, ?_⟩
  refine gr_nx rfl rfl rfl nx_makeMap ?_; rintro _ _ _ _ ⟨b3, rfl, rfl, rfl⟩; refine ⟨trivial, ?_⟩
  refine gr_rd rfl rfl rfl (rd_build Tryd.bt83 (ps := [(0, .map (some b1)), (1, .map (some b2)), (2, .map (some b3))]) (l := [.map (some b1), .map (some b2), .map (some b3)]) rfl rfl) ?_
  refine gr_nx rfl rfl rfl (nx_box rfl rfl) ?_; rintro _ _ _ _ ⟨b5, rfl, rfl, rfl⟩; refine ⟨trivial, ?_⟩
  refine gr_rd rfl rfl rfl (rd_assign rfl) ?_
  refine gr_nil ?_
  refine gk_then ?_
  refine gc_ret ?_
  refine gk_perm (L' := ((b5, .cells [.map (some b1), .map (some b2), .map (some b3)].toArray 83 (0, 0)) :: (b1, .map #[] 0) :: (b2, .map #[] 0) :: (b3, .map #[] 0) :: L)) (by haveI : DecidableEq (Nat × Obj) := fun _ _ => Classical.propDecidable _; rw [List.perm_iff_count]; intro a; simp only [List.count_append, List.count_cons, List.count_nil]; ac_rfl) ?_
  refine gk_result (L' := ((b5, .cells [.map (some b1), .map (some b2), .map (some b3)].toArray 83 (0, 0)) :: (b1, .map #[] 0) :: (b2, .map #[] 0) :: (b3, .map #[] 0) :: L)) (.inl rfl) _ (res1 rfl rfl) (List.Sublist.refl _) (Gh.le_refl _) ?_
  exact ⟨b5, b1, b2, b3, .map #[] 0, .map #[] 0, .map #[] 0, rfl, ⟨⟨[], ⟨[], 0, rfl, rfl, List.Pairwise.nil, (fun p hp => by cases hp), List.nodup_nil⟩, rfl, (fun t ht => by cases ht)⟩, ⟨[], ⟨[], 0, rfl, rfl, List.Pairwise.nil, (fun p hp => by cases hp), List.nodup_nil⟩, rfl, (fun t ht => by cases ht)⟩, ⟨[], ⟨[], 0, rfl, rfl, List.Pairwise.nil, (fun p hp => by cases hp), List.nodup_nil⟩, fun n => rfl⟩, List.nodup_nil, (fun p hp => by cases hp)⟩, rfl, rfl⟩
theorem names_cc (H : Gh) (L : Chunks) {b bo bw bt : Nat} {s : DSet} {ob ow ot : Obj} (hR : DRep H s ob ow ot) (hz : s.ops.length < 16777216) :
    CC Tryd.prog 14 #[pt b 0] H ((b, .cells [.map (some bo), .map (some bw), .map (some bt)].toArray 83 (0, 0)) :: (bo, ob) :: (bw, ow) :: (bt, ot) :: L) (fun u H' L' => ∃ C, Ow 34 32 C u (names s).length ((names s).flatMap encId) ∧ H = H' ∧ C ++ ((b, .cells [.map (some bo), .map (some bw), .map (some bt)].toArray 83 (0, 0)) :: (bo, ob) :: (bw, ow) :: (bt, ot) :: L) = L') := by
  obtain ⟨m, hM, hmn, _⟩ := hR.ops.look
  have hml : m.length = s.ops.length := by have := congrArg List.length hmn; simpa using this
  have hwl : (names s).length = m.length := by rw [names, rising_length, List.length_map, hml]
  refine cc_of Tryd.func14 rfl (Nat.le_of_ble_eq_true rfl) ?_
  simp only [Tryd.ntmps14]
  refine gc_seq ?_
  refine gc_seqr [(.mv, 0)] rfl ?_
  refine gr_rd rfl rfl rfl (rd_assign rfl) ?_
  refine gr_nil ?_
  refine gk_then ?_
  refine gc_seq ?_
  refine gc_seq ?_
  refine gc_seqr [(.mv, 0), (.mv, 1)] rfl ?_
  refine gr_rd rfl rfl rfl (rd_move rfl) ?_
  refine gr_rd rfl rfl rfl (rd_ptrNil Tryd.underlying27 rfl rfl) ?_
  refine gr_nil ?_
  refine gk_then ?_
  refine gc_no rfl ?_
  refine gc_skip ?_
  refine gk_then ?_
  refine gc_seq ?_
  refine gc_seqr [(.mv, 0), (.mv, 1), (.mv, 2), (.mv, 3), (.nm, 4), (.nm, 5), (.mv, 6)] rfl ?_
  refine gr_rd rfl rfl rfl (rd_move rfl) ?_
  refine gr_rd rfl rfl rfl (rd_nilCheck rfl) ?_
  refine gr_rd rfl rfl rfl (rd_fieldAddr Tryd.fa83_0 rfl) ?_
  refine gr_rd rfl rfl rfl (rd_load1 Tryd.to80 rfl (Cells.own (l := [.map (some bo), .map (some bw), .map (some bt)]) (T := 83) (z := (0, 0)) (by simp [baseL])) rfl) ?_
  refine gr_nx rfl rfl rfl (nx_call Tryd.en49 rfl (keys_cc _ _ (.map (some bo)) rfl)) ?_; rintro v9 H' L' hle ⟨Bm, rfl, rfl, rfl⟩; refine ⟨trivial, ?_⟩
  refine gr_perm (L' := ((Bm, .cells [.map (some bo)].toArray 80 (0, 0)) :: (bo, ob) :: ((b, .cells [.map (some bo), .map (some bw), .map (some bt)].toArray 83 (0, 0)) :: (bw, ow) :: (bt, ot) :: L))) (by haveI : DecidableEq (Nat × Obj) := fun _ _ => Classical.propDecidable _; rw [List.perm_iff_count]; intro a; simp only [List.count_append, List.count_cons, List.count_nil]; ac_rfl) ?_
  refine gr_nx rfl rfl rfl (nx_call Tryd.en48 rfl (sorted_cc _ _ hM (by omega))) ?_; rintro v10 H' L' hle ⟨C, hO, rfl, rfl⟩; refine ⟨trivial, ?_⟩
  refine gr_rd rfl rfl rfl (rd_assign rfl) ?_
  refine gr_nil ?_
  refine gk_then ?_
  refine gc_ret ?_
  refine gk_perm (L' := [(Bm, .cells [.map (some bo)].toArray 80 (0, 0))] ++ (C ++ ((b, .cells [.map (some bo), .map (some bw), .map (some bt)].toArray 83 (0, 0)) :: (bo, ob) :: (bw, ow) :: (bt, ot) :: L))) (by haveI : DecidableEq (Nat × Obj) := fun _ _ => Classical.propDecidable _; rw [List.perm_iff_count]; intro a; simp only [List.count_append, List.count_cons, List.count_nil]; ac_rfl) ?_
  refine gk_result (L' := C ++ ((b, .cells [.map (some bo), .map (some bw), .map (some bt)].toArray 83 (0, 0)) :: (bo, ob) :: (bw, ow) :: (bt, ot) :: L)) (.inl rfl) _ (res1 rfl rfl) (List.sublist_append_right _ _) (Gh.le_refl _) ?_
  exact ⟨C, by rw [hwl, names, ← hmn]; exact hO, rfl, rfl⟩
theorem waits_cc (H : Gh) (L : Chunks) {b bo bw bt : Nat} {s : DSet} {ob ow ot : Obj} (hR : DRep H s ob ow ot) (hz : s.wait.length < 16777216) :
    CC Tryd.prog 18 #[pt b 0] H ((b, .cells [.map (some bo), .map (some bw), .map (some bt)].toArray 83 (0, 0)) :: (bo, ob) :: (bw, ow) :: (bt, ot) :: L) (fun u H' L' => ∃ C, Ow 34 32 C u (waits s).length ((waits s).flatMap encId) ∧ H = H' ∧ C ++ ((b, .cells [.map (some bo), .map (some bw), .map (some bt)].toArray 83 (0, 0)) :: (bo, ob) :: (bw, ow) :: (bt, ot) :: L) = L') := by
  obtain ⟨m, hM, hmn, _⟩ := hR.wait.look
  have hml : m.length = s.wait.length := by have := congrArg List.length hmn; simpa using this
  have hwl : (waits s).length = m.length := by rw [waits, rising_length, List.length_map, hml]
  refine cc_of Tryd.func18 rfl (Nat.le_of_ble_eq_true rfl) ?_
  simp only [Tryd.ntmps18]
  refine gc_seq ?_
  refine gc_seqr [(.mv, 0)] rfl ?_
  refine gr_rd rfl rfl rfl (rd_assign rfl) ?_
  refine gr_nil ?_
  refine gk_then ?_
  refine gc_seq ?_
  refine gc_seq ?_
  refine gc_seqr [(.mv, 0), (.mv, 1)] rfl ?_
  refine gr_rd rfl rfl rfl (rd_move rfl) ?_
  refine gr_rd rfl rfl rfl (rd_ptrNil Tryd.underlying27 rfl rfl) ?_
  refine gr_nil ?_
  refine gk_then ?_
  refine gc_no rfl ?_
  refine gc_skip ?_
  refine gk_then ?_
  refine gc_seq ?_
  refine gc_seqr [(.mv, 0), (.mv, 1), (.mv, 2), (.mv, 3), (.nm, 4), (.nm, 5), (.mv, 6)] rfl ?_
  refine gr_rd rfl rfl rfl (rd_move rfl) ?_
  refine gr_rd rfl rfl rfl (rd_nilCheck rfl) ?_
  refine gr_rd rfl rfl rfl (rd_fieldAddr Tryd.fa83_1 rfl) ?_
  refine gr_rd rfl rfl rfl (rd_load1 Tryd.to80 rfl (Cells.own (l := [.map (some bo), .map (some bw), .map (some bt)]) (T := 83) (z := (0, 0)) (by simp [baseL])) rfl) ?_
  refine gr_nx rfl rfl rfl (nx_call Tryd.en49 rfl (keys_cc _ _ (.map (some bw)) rfl)) ?_; rintro v9 H' L' hle ⟨Bm, rfl, rfl, rfl⟩; refine ⟨trivial, ?_⟩
  refine gr_perm (L' := ((Bm, .cells [.map (some bw)].toArray 80 (0, 0)) :: (bw, ow) :: ((b, .cells [.map (some bo), .map (some bw), .map (some bt)].toArray 83 (0, 0)) :: (bo, ob) :: (bt, ot) :: L))) (by haveI : DecidableEq (Nat × Obj) := fun _ _ => Classical.propDecidable _; rw [List.perm_iff_count]; intro a; simp only [List.count_append, List.count_cons, List.count_nil]; ac_rfl) ?_
  refine gr_nx rfl rfl rfl (nx_call Tryd.en48 rfl (sorted_cc _ _ hM (by omega))) ?_; rintro v10 H' L' hle ⟨C, hO, rfl, rfl⟩; refine ⟨trivial, ?_⟩
  refine gr_rd rfl rfl rfl (rd_assign rfl) ?_
  refine gr_nil ?_
  refine gk_then ?_
  refine gc_ret ?_
  refine gk_perm (L' := [(Bm, .cells [.map (some bw)].toArray 80 (0, 0))] ++ (C ++ ((b, .cells [.map (some bo), .map (some bw), .map (some bt)].toArray 83 (0, 0)) :: (bo, ob) :: (bw, ow) :: (bt, ot) :: L))) (by haveI : DecidableEq (Nat × Obj) := fun _ _ => Classical.propDecidable _; rw [List.perm_iff_count]; intro a; simp only [List.count_append, List.count_cons, List.count_nil]; ac_rfl) ?_
  refine gk_result (L' := C ++ ((b, .cells [.map (some bo), .map (some bw), .map (some bt)].toArray 83 (0, 0)) :: (bo, ob) :: (bw, ow) :: (bt, ot) :: L)) (.inl rfl) _ (res1 rfl rfl) (List.sublist_append_right _ _) (Gh.le_refl _) ?_
  exact ⟨C, by rw [hwl, waits, ← hmn]; exact hO, rfl, rfl⟩
end Go.Proofs.YtfhldfjknagidaaDoor
