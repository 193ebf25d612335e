/-
  Walks: operations as bytes, their names; names compared.
-/
import Derived.Test.YtfhldfjknagidaaDoorVKs6
import Derived.Test.YtfhldfjknagidaaDoorVKk
set_option linter.unusedSimpArgs false
set_option linter.unusedVariables false
namespace Go.Proofs.YtfhldfjknagidaaDoor
open Go.VK Go.Tr
set_option maxRecDepth 20000
attribute [local irreducible] Go.Tr.sha
theorem ids_at {H : Gh} {L : Chunks} {b off : Nat} {l : List Value} {a : Option Addr} {xs : List Nm} (h1 : xs ≠ [] → a = some ⟨b, off, none⟩ ∧ Cells H L b l) (h2 : ∀ j x, xs[j]? = some x → Seg l (off + j * 32) (encId x)) {j : Nat} (hj : j < xs.length) :
    a = some ⟨b, off, none⟩ ∧ Cells H L b l ∧ Seg l (off + ((j : Int).toNat) * 32) (encId xs[j]) := by
  have h := sl_at h1 h2 hj
  exact ⟨h.1, h.2.1, by rw [Int.toNat_natCast]; exact h.2.2⟩
theorem seg_id {n : Nm} : Seg (encId n) 0 (encId n) := Seg.all _
theorem cmpB_step {a b : Bs} {i : Nat} {x y : UInt8} (hx : a[i]? = some x) (hy : b[i]? = some y) : cmpB (a.drop i) (b.drop i) = if x < y then -1 else if y < x then 1 else cmpB (a.drop (i + 1)) (b.drop (i + 1)) := by
  obtain ⟨h1, h2⟩ := List.getElem?_eq_some_iff.1 hx
  obtain ⟨h3, h4⟩ := List.getElem?_eq_some_iff.1 hy
  rw [List.drop_eq_getElem_cons h1, List.drop_eq_getElem_cons h3, h2, h4]
  rfl
theorem u8_lt {x y : UInt8} : x < y ↔ (x.toNat : Int) < (y.toNat : Int) := by rw [UInt8.lt_iff_toNat_lt]; omega
theorem byteN {n : Nm} {i : Nat} (h : i < 32) : n.bytes[i]? = some (n.bytes[i]'(by rw [n.len]; exact h)) := List.getElem?_eq_getElem _
theorem cellN {n : Nm} {i : Nat} (h : i < 32) : (encId n)[0 + ((i : Int).toNat) * 1]? = some (u8v (n.bytes[i]'(by rw [n.len]; exact h))) := by
  rw [show 0 + ((i : Int).toNat) * 1 = i by omega, encId, List.getElem?_map, byteN h]; rfl
theorem nameB_len {o : POp} (h : SmallO o) : (listB [opWord, opB o]).length < 549755813888 := by
  have h1 := listB2_len opWord (opB o)
  have h2 := opB_len h
  have : opWord.length = 2 := rfl
  omega

theorem text_cc (H : Gh) (L : Chunks) (o : POp) (pv : Value) (hp : Ids H L pv o.preds) (ho : SmallO o) :
    CC Tryd.prog 73 #[ag (encOp o pv)] H L (fun u H' L' => u = str (opB o) ∧ H = H' ∧ L = L') := by
  obtain ⟨A, bv, ov, cv, lv, rfl, hcv, hnv, hv0, hv1, hv2⟩ := hp
  have hlen := opB_len ho
  have hpn := ho.preds
  refine cc_of Tryd.func73 rfl (Nat.le_of_ble_eq_true rfl) ?_
  simp only [Tryd.ntmps73]
  refine gc_seq ?_
  refine gc_seqr [(.nm, 0), (.mv, 1)] rfl ?_
  refine gr_nx rfl rfl rfl (nx_box rfl rfl) ?_; rintro _ _ _ _ ⟨b1, rfl, rfl, rfl⟩; refine ⟨trivial, ?_⟩
  refine gr_rd rfl rfl rfl (rd_assign rfl) ?_
  refine gr_nil ?_
  refine gk_then ?_
  refine gc_seq ?_
  refine gc_seqr [(.mv, 0)] rfl ?_
  refine gr_rd rfl rfl rfl (rd_assign rfl) ?_
  refine gr_nil ?_
  refine gk_then ?_
  refine gc_seq ?_
  refine gc_seq ?_
  refine gc_seqr [(.mv, 0), (.mv, 1), (.mv, 2), (.mv, 3)] rfl ?_
  refine gr_rd rfl rfl rfl (rd_fieldAddr Tryd.fa38_3 rfl) ?_
  refine gr_rd rfl rfl rfl (rd_load1 Tryd.to29 rfl (by first | (apply Cells.own; (repeat (first | exact List.mem_cons_self | apply List.mem_cons_of_mem)); done) | (exact Cells.own (List.mem_append_right _ List.mem_cons_self))) (by first | rfl | assumption | exact encOp_37 _ _ | exact encOp_36 _ _ | exact encOp_35 _ _ | exact encOp_0 _ _ | exact encOp_1 _ _ | exact encOp_2 _ _ | exact encDraft_0 _ | exact encDraft_1 _ | exact encDraft_2 _ | simp)) ?_
  refine gr_rd rfl rfl rfl (rd_lenS Tryd.underlying29 rfl) ?_
  refine gr_rd rfl rfl rfl (rd_move rfl) ?_
  refine gr_nil ?_
  refine gk_then ?_
  refine gc_block ?_
  refine gc_loop (fun s : Nat × Value × Chunks => [(1, pt b1 0), (3, s.2.1), (7, .slice A o.preds.length cv), (8, i64 o.preds.length), (9, i64 s.1)]) (fun s H1 L1 => H = H1 ∧ L1 = s.2.2 ++ (b1, .cells (encOp o (.slice A o.preds.length cv)).toArray 38 (0, 0)) :: L ∧ s.1 ≤ o.preds.length ∧ Ow 5 1 s.2.2 s.2.1 ((o.preds.take s.1).flatMap (·.bytes)).length (((o.preds.take s.1).flatMap (·.bytes)).map u8v)) (fun s => o.preds.length - s.1) ((0, .slice none 0 0, [])) ?_ (by repeat (first | exact Subs.nil | refine Subs.cons rfl ?_)) ?_
  · exact ⟨rfl, rfl, Nat.zero_le _, Ow.nil⟩
  · rintro ⟨k, vo, C⟩ H1 L1 ⟨rfl, rfl, hk, hO⟩
    simp only at hk hO
    show GC _ _ _ _ [(1, pt b1 0), (3, vo), (7, .slice A o.preds.length cv), (8, i64 o.preds.length), (9, i64 k)] H (C ++ (b1, .cells (encOp o (.slice A o.preds.length cv)).toArray 38 (0, 0)) :: L)
    refine gc_seq ?_
    refine gc_seqr [(.mv, 0)] rfl ?_
    refine gr_rd rfl rfl rfl (rd_lss rfl rfl) ?_
    refine gr_nil ?_
    refine gk_then ?_
    refine gc_seq ?_
    refine gc_cond rfl (fun hc0 => ?_) (fun hc0 => ?_)
    · have hlt : k < o.preds.length := by simpa using hc0
      obtain ⟨hAe, hca, hsa⟩ := ids_at hv1 hv2 hlt
      have hpt := preds_take_len o.preds k
      have hca1 := Cells.mono (L' := C ++ (b1, .cells (encOp o (.slice A o.preds.length cv)).toArray 38 (0, 0)) :: L) hca (Gh.le_refl H) (by intro x hx; first | exact hx | exact List.mem_append_left _ hx | simp [baseL, hx])
      refine gc_skip ?_
      refine gk_then ?_
      refine gc_seq ?_
      refine gc_block ?_
      refine gc_seq ?_
      refine gc_seqr [(.mv, 0), (.mv, 1), (.nm, 2), (.nm, 3)] rfl ?_
      refine gr_rd rfl rfl rfl (rd_indexS Tryd.underlying29 Tryd.sizeOf34 rfl rfl hAe (by omega) (by omega)) ?_
      refine gr_rd rfl rfl rfl (rd_loadA Tryd.ta34 rfl hca1 hsa (encId_length _)) ?_
      refine gr_nx rfl rfl rfl (nx_alloc Tryd.zeroValue34 rfl) ?_; rintro _ _ _ _ ⟨b5, rfl, rfl, rfl⟩; refine ⟨trivial, ?_⟩
      refine gr_nx0 rfl rfl (nx_store (vs := encId o.preds[k]) Tryd.sizeOf34 rfl rfl rfl (encId_length _) Upd.here (by simp) (encId_ones _)) ?_; rintro _ _ _ _ ⟨rfl, rfl, rfl⟩; refine ⟨trivial, ?_⟩
      rw [wr_all (by rw [encId_length]; exact Nat.le_refl _)]
      refine gr_nil ?_
      refine gk_then ?_
      refine gc_seqr [(.mv, 0), (.mv, 1), (.nm, 2), (.mv, 3)] rfl ?_
      refine gr_rd rfl rfl rfl (rd_move rfl) ?_
      refine gr_rd rfl rfl rfl (rd_sliceArr Tryd.underlying34 Tryd.sizeOf5 rfl) ?_
      refine gr_nx rfl rfl rfl (nx_append Tryd.app117_117 rfl rfl hO (by repeat (first | exact Pick.here | exact Pick.one | apply Pick.there | apply Pick.app)) (src_id o.preds[k] (Cells.own List.mem_cons_self) (Seg.all _)) (by omega) (by omega)) ?_; rintro v15 H' L' hle ⟨C1, hO1, _, rfl, rfl⟩; refine ⟨trivial, ?_⟩
      refine gr_rd rfl rfl rfl (rd_assign rfl) ?_
      refine gr_nil ?_
      refine gk_inBlock ?_
      refine gk_then ?_
      refine gc_seqr [(.mv, 0), (.mv, 1)] rfl ?_
      (first | refine gr_rd rfl rfl rfl (rd_add rfl rfl (IntWalk.i64_in _ (by omega))) ?_ | refine gr_rd rfl rfl rfl (rd_add rfl rfl rfl) ?_)
      refine gr_rd rfl rfl rfl (rd_move rfl) ?_
      refine gr_nil ?_
      refine gk_drop (L' := C1 ++ (b1, .cells (encOp o (.slice A o.preds.length cv)).toArray 38 (0, 0)) :: L) (by repeat (first | exact List.Sublist.refl _ | apply List.Sublist.cons_cons | apply List.Sublist.cons | apply List.Sublist.append (List.Sublist.refl _) | refine List.Sublist.trans ?_ (List.sublist_append_right _ _))) ?_
      refine gk_round (k + 1, v15, C1) ?_ ?_ (by repeat (first | exact Subs.nil | refine Subs.cons rfl ?_))
      · show o.preds.length - (k + 1) < o.preds.length - k
        omega
      · refine ⟨rfl, rfl, by simp only; omega, ?_⟩
        simp only
        rw [preds_take _ _ hlt]
        simpa [encId, (o.preds[k]).len] using hO1
    · have hk2 : k = o.preds.length := by simp at hc0; omega
      subst hk2
      have hpt := predsB_len o.preds
      have hsp := ho.preds
      rw [List.take_length] at hO
      refine gc_exit ?_
      refine gk_exit_then ?_
      refine gk_exit_then ?_
      refine gk_here ?_
      refine gk_then ?_
      refine gc_seq ?_
      refine gc_draw Tryd.mixed [(.mv, 0), (.mv, 1), (.mv, 3), (.mv, 4), (.mv, 6), (.mv, 7), (.mv, 8), (.mv, 9), (.nm, 2), (.nm, 5), (.nm, 10), (.fin, 11), (.fin, 12), (.fin, 13)] (by decide +kernel) _ (List.Sublist.refl _) ?_
      refine gr_rd rfl rfl rfl (rd_fieldAddr Tryd.fa38_1 rfl) ?_
      refine gr_rd rfl rfl rfl (rd_load1 Tryd.to3 rfl (by first | (apply Cells.own; (repeat (first | exact List.mem_cons_self | apply List.mem_cons_of_mem)); done) | (exact Cells.own (List.mem_append_right _ List.mem_cons_self))) (by first | rfl | assumption | exact encOp_37 _ _ | exact encOp_36 _ _ | exact encOp_35 _ _ | exact encOp_0 _ _ | exact encOp_1 _ _ | exact encOp_2 _ _ | exact encDraft_0 _ | exact encDraft_1 _ | exact encDraft_2 _ | simp)) ?_
      refine gr_rd rfl rfl rfl (rd_fieldAddr Tryd.fa38_2 rfl) ?_
      refine gr_rd rfl rfl rfl (rd_load1 Tryd.to3 rfl (by first | (apply Cells.own; (repeat (first | exact List.mem_cons_self | apply List.mem_cons_of_mem)); done) | (exact Cells.own (List.mem_append_right _ List.mem_cons_self))) (by first | rfl | assumption | exact encOp_37 _ _ | exact encOp_36 _ _ | exact encOp_35 _ _ | exact encOp_0 _ _ | exact encOp_1 _ _ | exact encOp_2 _ _ | exact encDraft_0 _ | exact encDraft_1 _ | exact encDraft_2 _ | simp)) ?_
      refine gr_rd rfl rfl rfl (rd_move rfl) ?_
      refine gr_rd rfl rfl rfl (rd_convOw Tryd.underlying117 Tryd.underlying9 Tryd.underlying5 rfl hO (by intro x hx; first | exact hx | exact List.mem_append_left _ hx | simp [baseL, hx])) ?_
      refine gr_rd rfl rfl rfl (rd_fieldAddr Tryd.fa38_0 rfl) ?_
      refine gr_rd rfl rfl rfl (rd_loadA Tryd.ta36 rfl (by first | exact Cells.own List.mem_cons_self | exact Cells.own (List.mem_append_right _ List.mem_cons_self)) (encOp_seg_draft o _) (encDraft_length _)) ?_
      refine gr_nx rfl rfl rfl (nx_call Tryd.en93 rfl (num_cc _ _ _ ho.author)) ?_; rintro v19 H' L' hle ⟨rfl, rfl, rfl⟩; refine ⟨⟨(by first | exact Gh.le_refl _ | assumption | exact Gh.le_trans (by assumption) (by assumption)), (by repeat (first | exact List.Sublist.refl _ | exact List.nil_sublist _ | apply List.Sublist.cons_cons | apply List.Sublist.cons | apply List.Sublist.append (List.Sublist.refl _) | refine List.Sublist.trans ?_ (List.sublist_append_right _ _)))⟩, ?_⟩
      refine gr_nx rfl rfl rfl (nx_call Tryd.en93 rfl (num_cc _ _ _ ho.depth)) ?_; rintro v22 H' L' hle ⟨rfl, rfl, rfl⟩; refine ⟨⟨(by first | exact Gh.le_refl _ | assumption | exact Gh.le_trans (by assumption) (by assumption)), (by repeat (first | exact List.Sublist.refl _ | exact List.nil_sublist _ | apply List.Sublist.cons_cons | apply List.Sublist.cons | apply List.Sublist.append (List.Sublist.refl _) | refine List.Sublist.trans ?_ (List.sublist_append_right _ _)))⟩, ?_⟩
      refine gr_nx rfl rfl rfl (nx_call Tryd.en94 rfl (draft_cc _ _ _ ho.draft)) ?_; rintro v27 H' L' hle ⟨rfl, rfl, rfl⟩; refine ⟨⟨(by first | exact Gh.le_refl _ | assumption | exact Gh.le_trans (by assumption) (by assumption)), (by repeat (first | exact List.Sublist.refl _ | exact List.nil_sublist _ | apply List.Sublist.cons_cons | apply List.Sublist.cons | apply List.Sublist.append (List.Sublist.refl _) | refine List.Sublist.trans ?_ (List.sublist_append_right _ _)))⟩, ?_⟩
      refine gr_fin rfl rfl rfl (nx_slice1 (vs := [_, _, _, _]) Tryd.underlying69 Tryd.sizeOf9 Tryd.zeroValue9 rfl rfl rfl (by first | exact oneCells_of_all rfl | assumption) rfl rfl) ?_; rintro _ _ _ _ ⟨b28, rfl, rfl, rfl⟩
      refine gr_fin rfl rfl rfl (nx_call Tryd.en92 rfl (list_cc _ _ _ [numB o.author.toNat, numB o.depth.toNat, o.preds.flatMap (·.bytes), draftB o.draft] (strs_new rfl (by omega) List.mem_cons_self) (by show (opB o).length < _; omega))) ?_; rintro v29 H' L' hle ⟨rfl, rfl, rfl⟩
      refine gr_fin rfl rfl rfl (Rd.nx (rd_assign rfl)) ?_; rintro _ _ _ _ ⟨rfl, rfl, rfl⟩
      refine gr_nil ?_
      refine gk_then ?_
      refine gc_ret ?_
      refine gk_result (L' := L) (.inl rfl) _ (res1 rfl rfl) (by repeat (first | exact List.Sublist.refl _ | apply List.Sublist.cons_cons | apply List.Sublist.cons | apply List.Sublist.append (List.Sublist.refl _) | refine List.Sublist.trans ?_ (List.sublist_append_right _ _))) (by first | exact Gh.le_refl _ | assumption | exact Gh.le_trans (by assumption) (by assumption)) ?_
      exact ⟨rfl, rfl, rfl⟩
theorem rotext_cc (H : Gh) (L : Chunks) (o : POp) (pv : Value) (hp : Ids H L pv o.preds) (ho : SmallO o) :
    CC Tryd.prog 52 #[ag (encOp o pv)] H L (fun u H' L' => u = str (opB o) ∧ H = H' ∧ L = L') := by
  obtain ⟨A, bv, ov, cv, lv, rfl, hcv, hnv, hv0, hv1, hv2⟩ := hp
  have hlen := opB_len ho
  have hpn := ho.preds
  refine cc_of Tryd.func52 rfl (Nat.le_of_ble_eq_true rfl) ?_
  simp only [Tryd.ntmps52]
  refine gc_seq ?_
  refine gc_seqr [(.nm, 0), (.mv, 1)] rfl ?_
  refine gr_nx rfl rfl rfl (nx_box rfl rfl) ?_; rintro _ _ _ _ ⟨b1, rfl, rfl, rfl⟩; refine ⟨trivial, ?_⟩
  refine gr_rd rfl rfl rfl (rd_assign rfl) ?_
  refine gr_nil ?_
  refine gk_then ?_
  refine gc_seq ?_
  refine gc_seqr [(.mv, 0)] rfl ?_
  refine gr_rd rfl rfl rfl (rd_assign rfl) ?_
  refine gr_nil ?_
  refine gk_then ?_
  refine gc_seq ?_
  refine gc_seq ?_
  refine gc_seqr [(.mv, 0), (.mv, 1), (.mv, 2), (.mv, 3)] rfl ?_
  refine gr_rd rfl rfl rfl (rd_fieldAddr Tryd.fa38_3 rfl) ?_
  refine gr_rd rfl rfl rfl (rd_load1 Tryd.to29 rfl (by first | (apply Cells.own; (repeat (first | exact List.mem_cons_self | apply List.mem_cons_of_mem)); done) | (exact Cells.own (List.mem_append_right _ List.mem_cons_self))) (by first | rfl | assumption | exact encOp_37 _ _ | exact encOp_36 _ _ | exact encOp_35 _ _ | exact encOp_0 _ _ | exact encOp_1 _ _ | exact encOp_2 _ _ | exact encDraft_0 _ | exact encDraft_1 _ | exact encDraft_2 _ | simp)) ?_
  refine gr_rd rfl rfl rfl (rd_lenS Tryd.underlying29 rfl) ?_
  refine gr_rd rfl rfl rfl (rd_move rfl) ?_
  refine gr_nil ?_
  refine gk_then ?_
  refine gc_block ?_
  refine gc_loop (fun k : Nat => [(1, pt b1 0), (3, str ((o.preds.take k).flatMap (·.bytes))), (7, .slice A o.preds.length cv), (8, i64 o.preds.length), (9, i64 k)]) (fun k H1 L1 => H = H1 ∧ (b1, .cells (encOp o (.slice A o.preds.length cv)).toArray 38 (0, 0)) :: L = L1 ∧ k ≤ o.preds.length) (fun k => o.preds.length - k) (0) ?_ (by repeat (first | exact Subs.nil | refine Subs.cons rfl ?_)) ?_
  · exact ⟨rfl, rfl, Nat.zero_le _⟩
  · rintro k H1 L1 ⟨rfl, rfl, hk⟩
    refine gc_seq ?_
    refine gc_seqr [(.mv, 0)] rfl ?_
    refine gr_rd rfl rfl rfl (rd_lss rfl rfl) ?_
    refine gr_nil ?_
    refine gk_then ?_
    refine gc_seq ?_
    refine gc_cond rfl (fun hc0 => ?_) (fun hc0 => ?_)
    · have hlt : k < o.preds.length := by simpa using hc0
      obtain ⟨hAe, hca, hsa⟩ := ids_at hv1 hv2 hlt
      have hpt := preds_take_len o.preds k
      have hca1 := Cells.mono (L' := (b1, .cells (encOp o (.slice A o.preds.length cv)).toArray 38 (0, 0)) :: L) hca (Gh.le_refl H) (by intro x hx; first | exact hx | exact List.mem_append_left _ hx | simp [baseL, hx])
      refine gc_skip ?_
      refine gk_then ?_
      refine gc_seq ?_
      refine gc_block ?_
      refine gc_seq ?_
      refine gc_seqr [(.mv, 0), (.mv, 1), (.nm, 2), (.nm, 3)] rfl ?_
      refine gr_rd rfl rfl rfl (rd_indexS Tryd.underlying29 Tryd.sizeOf34 rfl rfl hAe (by omega) (by omega)) ?_
      refine gr_rd rfl rfl rfl (rd_loadA Tryd.ta34 rfl hca1 hsa (encId_length _)) ?_
      refine gr_nx rfl rfl rfl (nx_alloc Tryd.zeroValue34 rfl) ?_; rintro _ _ _ _ ⟨b5, rfl, rfl, rfl⟩; refine ⟨trivial, ?_⟩
      refine gr_nx0 rfl rfl (nx_store (vs := encId o.preds[k]) Tryd.sizeOf34 rfl rfl rfl (encId_length _) Upd.here (by simp) (encId_ones _)) ?_; rintro _ _ _ _ ⟨rfl, rfl, rfl⟩; refine ⟨trivial, ?_⟩
      rw [wr_all (by rw [encId_length]; exact Nat.le_refl _)]
      refine gr_nil ?_
      refine gk_then ?_
      refine gc_seqr [(.mv, 0), (.mv, 1), (.mv, 2), (.mv, 3), (.mv, 4)] rfl ?_
      refine gr_rd rfl rfl rfl (rd_move rfl) ?_
      refine gr_rd rfl rfl rfl (rd_sliceArr Tryd.underlying34 Tryd.sizeOf5 rfl) ?_
      refine gr_rd rfl rfl rfl (rd_idStr o.preds[k] Tryd.underlying117 Tryd.underlying9 Tryd.underlying5 rfl (Cells.own List.mem_cons_self) (Seg.all _)) ?_
      refine gr_rd rfl rfl rfl (rd_strAddL rfl rfl (by have := (o.preds[k]).len; omega)) ?_
      refine gr_rd rfl rfl rfl (rd_assign rfl) ?_
      refine gr_nil ?_
      refine gk_inBlock ?_
      refine gk_then ?_
      refine gc_seqr [(.mv, 0), (.mv, 1)] rfl ?_
      (first | refine gr_rd rfl rfl rfl (rd_add rfl rfl (IntWalk.i64_in _ (by omega))) ?_ | refine gr_rd rfl rfl rfl (rd_add rfl rfl rfl) ?_)
      refine gr_rd rfl rfl rfl (rd_move rfl) ?_
      refine gr_nil ?_
      refine gk_drop (L' := (b1, .cells (encOp o (.slice A o.preds.length cv)).toArray 38 (0, 0)) :: L) (by repeat (first | exact List.Sublist.refl _ | apply List.Sublist.cons_cons | apply List.Sublist.cons | apply List.Sublist.append (List.Sublist.refl _) | refine List.Sublist.trans ?_ (List.sublist_append_right _ _))) ?_
      refine gk_round (k + 1) (by omega) ⟨rfl, rfl, by omega⟩ ?_
      refine Subs.cons rfl (Subs.cons ?_ (by repeat (first | exact Subs.nil | refine Subs.cons rfl ?_)))
      simp only [find, cond]
      rw [preds_take _ _ hlt]
    · have hk2 : k = o.preds.length := by simp at hc0; omega
      subst hk2
      have hpt := predsB_len o.preds
      have hsp := ho.preds
      rw [List.take_length]
      refine gc_exit ?_
      refine gk_exit_then ?_
      refine gk_exit_then ?_
      refine gk_here ?_
      refine gk_then ?_
      refine gc_seq ?_
      refine gc_draw Tryd.mixed [(.mv, 0), (.mv, 1), (.mv, 3), (.mv, 4), (.mv, 6), (.mv, 7), (.mv, 8), (.nm, 2), (.nm, 5), (.nm, 9), (.fin, 10), (.fin, 11), (.fin, 12)] (by decide +kernel) _ (List.Sublist.refl _) ?_
      refine gr_rd rfl rfl rfl (rd_fieldAddr Tryd.fa38_1 rfl) ?_
      refine gr_rd rfl rfl rfl (rd_load1 Tryd.to3 rfl (by first | (apply Cells.own; (repeat (first | exact List.mem_cons_self | apply List.mem_cons_of_mem)); done) | (exact Cells.own (List.mem_append_right _ List.mem_cons_self))) (by first | rfl | assumption | exact encOp_37 _ _ | exact encOp_36 _ _ | exact encOp_35 _ _ | exact encOp_0 _ _ | exact encOp_1 _ _ | exact encOp_2 _ _ | exact encDraft_0 _ | exact encDraft_1 _ | exact encDraft_2 _ | simp)) ?_
      refine gr_rd rfl rfl rfl (rd_fieldAddr Tryd.fa38_2 rfl) ?_
      refine gr_rd rfl rfl rfl (rd_load1 Tryd.to3 rfl (by first | (apply Cells.own; (repeat (first | exact List.mem_cons_self | apply List.mem_cons_of_mem)); done) | (exact Cells.own (List.mem_append_right _ List.mem_cons_self))) (by first | rfl | assumption | exact encOp_37 _ _ | exact encOp_36 _ _ | exact encOp_35 _ _ | exact encOp_0 _ _ | exact encOp_1 _ _ | exact encOp_2 _ _ | exact encDraft_0 _ | exact encDraft_1 _ | exact encDraft_2 _ | simp)) ?_
      refine gr_rd rfl rfl rfl (rd_move rfl) ?_
      refine gr_rd rfl rfl rfl (rd_fieldAddr Tryd.fa38_0 rfl) ?_
      refine gr_rd rfl rfl rfl (rd_loadA Tryd.ta36 rfl (by first | exact Cells.own List.mem_cons_self | exact Cells.own (List.mem_append_right _ List.mem_cons_self)) (encOp_seg_draft o _) (encDraft_length _)) ?_
      refine gr_nx rfl rfl rfl (nx_call Tryd.en79 rfl (rnum9_cc _ _ _ ho.author)) ?_; rintro v20 H' L' hle ⟨rfl, rfl, rfl⟩; refine ⟨⟨(by first | exact Gh.le_refl _ | assumption | exact Gh.le_trans (by assumption) (by assumption)), (by repeat (first | exact List.Sublist.refl _ | exact List.nil_sublist _ | apply List.Sublist.cons_cons | apply List.Sublist.cons | apply List.Sublist.append (List.Sublist.refl _) | refine List.Sublist.trans ?_ (List.sublist_append_right _ _)))⟩, ?_⟩
      refine gr_nx rfl rfl rfl (nx_call Tryd.en79 rfl (rnum9_cc _ _ _ ho.depth)) ?_; rintro v23 H' L' hle ⟨rfl, rfl, rfl⟩; refine ⟨⟨(by first | exact Gh.le_refl _ | assumption | exact Gh.le_trans (by assumption) (by assumption)), (by repeat (first | exact List.Sublist.refl _ | exact List.nil_sublist _ | apply List.Sublist.cons_cons | apply List.Sublist.cons | apply List.Sublist.append (List.Sublist.refl _) | refine List.Sublist.trans ?_ (List.sublist_append_right _ _)))⟩, ?_⟩
      refine gr_nx rfl rfl rfl (nx_call Tryd.en80 rfl (rdraft_cc _ _ _ ho.draft)) ?_; rintro v27 H' L' hle ⟨rfl, rfl, rfl⟩; refine ⟨⟨(by first | exact Gh.le_refl _ | assumption | exact Gh.le_trans (by assumption) (by assumption)), (by repeat (first | exact List.Sublist.refl _ | exact List.nil_sublist _ | apply List.Sublist.cons_cons | apply List.Sublist.cons | apply List.Sublist.append (List.Sublist.refl _) | refine List.Sublist.trans ?_ (List.sublist_append_right _ _)))⟩, ?_⟩
      refine gr_fin rfl rfl rfl (nx_slice1 (vs := [_, _, _, _]) Tryd.underlying69 Tryd.sizeOf9 Tryd.zeroValue9 rfl rfl rfl (by first | exact oneCells_of_all rfl | assumption) rfl rfl) ?_; rintro _ _ _ _ ⟨b28, rfl, rfl, rfl⟩
      refine gr_fin rfl rfl rfl (nx_call Tryd.en78 rfl (rlist_cc _ _ _ [numB o.author.toNat, numB o.depth.toNat, o.preds.flatMap (·.bytes), draftB o.draft] (strs_new rfl (by omega) List.mem_cons_self) (by show (opB o).length < _; omega))) ?_; rintro v29 H' L' hle ⟨rfl, rfl, rfl⟩
      refine gr_fin rfl rfl rfl (Rd.nx (rd_assign rfl)) ?_; rintro _ _ _ _ ⟨rfl, rfl, rfl⟩
      refine gr_nil ?_
      refine gk_then ?_
      refine gc_ret ?_
      refine gk_result (L' := L) (.inl rfl) _ (res1 rfl rfl) (by repeat (first | exact List.Sublist.refl _ | apply List.Sublist.cons_cons | apply List.Sublist.cons | apply List.Sublist.append (List.Sublist.refl _) | refine List.Sublist.trans ?_ (List.sublist_append_right _ _))) (by first | exact Gh.le_refl _ | assumption | exact Gh.le_trans (by assumption) (by assumption)) ?_
      exact ⟨rfl, rfl, rfl⟩
theorem name_cc (H : Gh) (hG : Glob H) (L : Chunks) (o : POp) (pv : Value) (hp : Ids H L pv o.preds) (ho : SmallO o) :
    CC Tryd.prog 43 #[ag (encOp o pv)] H L (fun u H' L' => u = ag (encId (nameOf o)) ∧ H = H' ∧ L = L') := by
  refine cc_of Tryd.func43 rfl (Nat.le_of_ble_eq_true rfl) ?_
  simp only [Tryd.ntmps43]
  refine gc_seq ?_
  refine gc_seqr [(.nm, 0), (.nm, 1)] rfl ?_
  refine gr_nx rfl rfl rfl (nx_box rfl rfl) ?_; rintro _ _ _ _ ⟨b1, rfl, rfl, rfl⟩; refine ⟨trivial, ?_⟩
  refine gr_nx rfl rfl rfl (nx_alloc Tryd.zeroValue34 rfl) ?_; rintro _ _ _ _ ⟨b2, rfl, rfl, rfl⟩; refine ⟨trivial, ?_⟩
  refine gr_nil ?_
  refine gk_then ?_
  refine gc_seq ?_
  refine gc_seqr [(.mv, 0), (.nm, 1), (.nm, 2), (.nm, 3), (.nm, 4)] rfl ?_
  refine gr_rd rfl rfl rfl (rd_loadA Tryd.ta38 rfl (Cells.own (List.mem_cons_of_mem _ List.mem_cons_self)) (Seg.all _) (encOp_length _ _)) ?_
  refine gr_nx rfl rfl rfl (nx_call Tryd.en73 rfl (text_cc _ _ o pv (hp.mono (Gh.le_refl _) (fun x hx => List.mem_cons_of_mem _ (List.mem_cons_of_mem _ hx))) ho)) ?_; rintro v4 H' L' hle ⟨rfl, rfl, rfl⟩; refine ⟨trivial, ?_⟩
  refine gr_nx rfl rfl rfl (nx_slice1 (vs := [_]) Tryd.underlying69 Tryd.sizeOf9 Tryd.zeroValue9 rfl rfl rfl (by first | exact oneCells_of_all rfl | exact encOp_ones o hp.one) rfl rfl) ?_; rintro _ _ _ _ ⟨b5, rfl, rfl, rfl⟩; refine ⟨trivial, ?_⟩
  refine gr_nx rfl rfl rfl (nx_call Tryd.en72 rfl (sum_cc _ hG _ opWord _ [opB o] (strs_new rfl (by omega) List.mem_cons_self) (nameB_len ho) (by simp))) ?_; rintro v6 H' L' hle ⟨rfl, rfl, rfl⟩; refine ⟨trivial, ?_⟩
  refine gr_nx0 rfl rfl (nx_store (vs := encId (sum opWord [opB o])) Tryd.sizeOf34 rfl rfl rfl (encId_length _) (Upd.there Upd.here) (by simp) (encId_ones _)) ?_; rintro _ _ _ _ ⟨rfl, rfl, rfl⟩; refine ⟨trivial, ?_⟩
  rw [wr_all (by rw [encId_length]; exact Nat.le_refl _)]
  refine gr_nil ?_
  refine gk_then ?_
  refine gc_ret ?_
  refine gk_result (L' := L) (.inl rfl) _ (resC1 rfl rfl Tryd.ta34 (by first | (apply Cells.own; (repeat (first | exact List.mem_cons_self | apply List.mem_cons_of_mem)); done) | (exact Cells.own (List.mem_cons_of_mem _ List.mem_cons_self))) (by first | exact Seg.all _ | exact Seg.head | assumption) (by first | exact encId_length _ | exact encOp_length _ _ | exact encDraft_length _ | rfl | simp)) (by repeat (first | exact List.Sublist.refl _ | apply List.Sublist.cons_cons | apply List.Sublist.cons | apply List.Sublist.append (List.Sublist.refl _) | refine List.Sublist.trans ?_ (List.sublist_append_right _ _))) (by first | exact Gh.le_refl _ | assumption | exact Gh.le_trans (by assumption) (by assumption)) ?_
  exact ⟨rfl, rfl, rfl⟩
theorem rname_cc (H : Gh) (L : Chunks) (o : POp) (pv : Value) (hp : Ids H L pv o.preds) (ho : SmallO o) :
    CC Tryd.prog 16 #[ag (encOp o pv)] H L (fun u H' L' => u = ag (encId (nameOf o)) ∧ H = H' ∧ L = L') := by
  refine cc_of Tryd.func16 rfl (Nat.le_of_ble_eq_true rfl) ?_
  simp only [Tryd.ntmps16]
  refine gc_seq ?_
  refine gc_seqr [(.nm, 0), (.nm, 1)] rfl ?_
  refine gr_nx rfl rfl rfl (nx_box rfl rfl) ?_; rintro _ _ _ _ ⟨b1, rfl, rfl, rfl⟩; refine ⟨trivial, ?_⟩
  refine gr_nx rfl rfl rfl (nx_alloc Tryd.zeroValue34 rfl) ?_; rintro _ _ _ _ ⟨b2, rfl, rfl, rfl⟩; refine ⟨trivial, ?_⟩
  refine gr_nil ?_
  refine gk_then ?_
  refine gc_seq ?_
  refine gc_seqr [(.mv, 0), (.nm, 1), (.nm, 2), (.nm, 3), (.nm, 4)] rfl ?_
  refine gr_rd rfl rfl rfl (rd_loadA Tryd.ta38 rfl (Cells.own (List.mem_cons_of_mem _ List.mem_cons_self)) (Seg.all _) (encOp_length _ _)) ?_
  refine gr_nx rfl rfl rfl (nx_call Tryd.en52 rfl (rotext_cc _ _ o pv (hp.mono (Gh.le_refl _) (fun x hx => List.mem_cons_of_mem _ (List.mem_cons_of_mem _ hx))) ho)) ?_; rintro v4 H' L' hle ⟨rfl, rfl, rfl⟩; refine ⟨trivial, ?_⟩
  refine gr_nx rfl rfl rfl (nx_slice1 (vs := [_]) Tryd.underlying69 Tryd.sizeOf9 Tryd.zeroValue9 rfl rfl rfl (by first | exact oneCells_of_all rfl | exact encOp_ones o hp.one) rfl rfl) ?_; rintro _ _ _ _ ⟨b5, rfl, rfl, rfl⟩; refine ⟨trivial, ?_⟩
  refine gr_nx rfl rfl rfl (nx_call Tryd.en51 rfl (rsum_cc _ _ opWord _ [opB o] (strs_new rfl (by omega) List.mem_cons_self) (nameB_len ho) (by simp))) ?_; rintro v6 H' L' hle ⟨rfl, rfl, rfl⟩; refine ⟨trivial, ?_⟩
  refine gr_nx0 rfl rfl (nx_store (vs := encId (sum opWord [opB o])) Tryd.sizeOf34 rfl rfl rfl (encId_length _) (Upd.there Upd.here) (by simp) (encId_ones _)) ?_; rintro _ _ _ _ ⟨rfl, rfl, rfl⟩; refine ⟨trivial, ?_⟩
  rw [wr_all (by rw [encId_length]; exact Nat.le_refl _)]
  refine gr_nil ?_
  refine gk_then ?_
  refine gc_ret ?_
  refine gk_result (L' := L) (.inl rfl) _ (resC1 rfl rfl Tryd.ta34 (by first | (apply Cells.own; (repeat (first | exact List.mem_cons_self | apply List.mem_cons_of_mem)); done) | (exact Cells.own (List.mem_cons_of_mem _ List.mem_cons_self))) (by first | exact Seg.all _ | exact Seg.head | assumption) (by first | exact encId_length _ | exact encOp_length _ _ | exact encDraft_length _ | rfl | simp)) (by repeat (first | exact List.Sublist.refl _ | apply List.Sublist.cons_cons | apply List.Sublist.cons | apply List.Sublist.append (List.Sublist.refl _) | refine List.Sublist.trans ?_ (List.sublist_append_right _ _))) (by first | exact Gh.le_refl _ | assumption | exact Gh.le_trans (by assumption) (by assumption)) ?_
  exact ⟨rfl, rfl, rfl⟩
theorem bcmp_cc (H : Gh) (L : Chunks) {b o cap b' o' cap' : Nat} {l l' : List Value} (p q : Nm) (hc : Cells H L b l) (hs : Seg l o (encId p)) (hc' : Cells H L b' l') (hs' : Seg l' o' (encId q)) :
    CC Tryd.prog 76 #[.slice (some ⟨b, o, none⟩) 32 cap, .slice (some ⟨b', o', none⟩) 32 cap'] H L (fun v H' L' => v = i64 (cmp p q) ∧ H = H' ∧ L = L') := by
  refine cc_of Tryd.func76 rfl (Nat.le_of_ble_eq_true rfl) ?_
  simp only [Tryd.ntmps76]
  refine gc_seq ?_
  refine gc_seqr [(.mv, 0)] rfl ?_
  refine gr_rd rfl rfl rfl (rd_assign rfl) ?_
  refine gr_nil ?_
  refine gk_then ?_
  refine gc_seq ?_
  refine gc_seqr [(.mv, 0), (.mv, 1), (.mv, 2), (.mv, 3)] rfl ?_
  refine gr_rd rfl rfl rfl (rd_move rfl) ?_
  refine gr_rd rfl rfl rfl (rd_move rfl) ?_
  refine gr_rd rfl rfl rfl (rd_compare Tryd.func96 (by kernel_rfl) rfl (by kernel_rfl) (by kernel_rfl) p.len q.len rfl rfl hc hs hc' hs') ?_
  refine gr_rd rfl rfl rfl (rd_assign rfl) ?_
  refine gr_nil ?_
  refine gk_then ?_
  refine gc_ret ?_
  refine gk_result (L' := L) (.inl rfl) _ (res1 rfl rfl) (by repeat (first | exact List.Sublist.refl _ | apply List.Sublist.cons_cons | apply List.Sublist.cons | apply List.Sublist.append (List.Sublist.refl _) | refine List.Sublist.trans ?_ (List.sublist_append_right _ _))) (by first | exact Gh.le_refl _ | assumption | exact Gh.le_trans (by assumption) (by assumption)) ?_
  exact ⟨rfl, rfl, rfl⟩
theorem cmp_cc (H : Gh) (L : Chunks) (p q : Nm) :
    CC Tryd.prog 50 #[ag (encId p), ag (encId q)] H L (fun v H' L' => v = i64 (cmp p q) ∧ H = H' ∧ L = L') := by
  refine cc_of Tryd.func50 rfl (Nat.le_of_ble_eq_true rfl) ?_
  simp only [Tryd.ntmps50]
  refine gc_seq ?_
  refine gc_seqr [(.nm, 0), (.nm, 1), (.mv, 2)] rfl ?_
  refine gr_nx rfl rfl rfl (nx_box rfl rfl) ?_; rintro _ _ _ _ ⟨b2, rfl, rfl, rfl⟩; refine ⟨trivial, ?_⟩
  refine gr_nx rfl rfl rfl (nx_box rfl rfl) ?_; rintro _ _ _ _ ⟨b3, rfl, rfl, rfl⟩; refine ⟨trivial, ?_⟩
  refine gr_rd rfl rfl rfl (rd_assign rfl) ?_
  refine gr_nil ?_
  refine gk_then ?_
  refine gc_seq ?_
  refine gc_draw Tryd.mixed [(.mv, 0), (.mv, 1), (.fin, 2), (.fin, 3)] (by decide +kernel) _ (List.Sublist.refl _) ?_
  refine gr_rd rfl rfl rfl (rd_sliceArr Tryd.underlying34 Tryd.sizeOf5 rfl) ?_
  refine gr_rd rfl rfl rfl (rd_sliceArr Tryd.underlying34 Tryd.sizeOf5 rfl) ?_
  refine gr_fin rfl rfl rfl (nx_call Tryd.en76 rfl (bcmp_cc _ _ p q (Cells.own (List.mem_cons_of_mem _ List.mem_cons_self)) (Seg.all _) (Cells.own List.mem_cons_self) (Seg.all _))) ?_; rintro v7 H' L' hle ⟨rfl, rfl, rfl⟩
  refine gr_fin rfl rfl rfl (Rd.nx (rd_assign rfl)) ?_; rintro _ _ _ _ ⟨rfl, rfl, rfl⟩
  refine gr_nil ?_
  refine gk_then ?_
  refine gc_ret ?_
  refine gk_result (L' := L) (.inl rfl) _ (res1 rfl rfl) (by repeat (first | exact List.Sublist.refl _ | apply List.Sublist.cons_cons | apply List.Sublist.cons | apply List.Sublist.append (List.Sublist.refl _) | refine List.Sublist.trans ?_ (List.sublist_append_right _ _))) (by first | exact Gh.le_refl _ | assumption | exact Gh.le_trans (by assumption) (by assumption)) ?_
  exact ⟨rfl, rfl, rfl⟩
theorem rcmp_cc (H : Gh) (L : Chunks) (p q : Nm) :
    CC Tryd.prog 57 #[ag (encId p), ag (encId q)] H L (fun v H' L' => v = i64 (cmp p q) ∧ H = H' ∧ L = L') := by
  refine cc_of Tryd.func57 rfl (Nat.le_of_ble_eq_true rfl) ?_
  simp only [Tryd.ntmps57]
  refine gc_seq ?_
  refine gc_seqr [(.nm, 0), (.nm, 1), (.mv, 2)] rfl ?_
  refine gr_nx rfl rfl rfl (nx_box rfl rfl) ?_; rintro _ _ _ _ ⟨b2, rfl, rfl, rfl⟩; refine ⟨trivial, ?_⟩
  refine gr_nx rfl rfl rfl (nx_box rfl rfl) ?_; rintro _ _ _ _ ⟨b3, rfl, rfl, rfl⟩; refine ⟨trivial, ?_⟩
  refine gr_rd rfl rfl rfl (rd_assign rfl) ?_
  refine gr_nil ?_
  refine gk_then ?_
  refine gc_seq ?_
  refine gc_seq ?_
  refine gc_seqr [(.mv, 0)] rfl ?_
  refine gr_rd rfl rfl rfl (rd_move rfl) ?_
  refine gr_nil ?_
  refine gk_then ?_
  refine gc_block ?_
  refine gc_loop (fun i : Nat => [(2, pt b2 0), (3, pt b3 0), (6, i64 i)]) (fun i H1 L1 => H = H1 ∧ (b3, .cells (encId q).toArray 34 (0, 0)) :: (b2, .cells (encId p).toArray 34 (0, 0)) :: L = L1 ∧ i ≤ 32 ∧ cmp p q = cmpB (p.bytes.drop i) (q.bytes.drop i)) (fun i => 32 - i) (0) ?_ (by repeat (first | exact Subs.nil | refine Subs.cons rfl ?_)) ?_
  · exact ⟨rfl, rfl, Nat.zero_le _, rfl⟩
  · rintro i H1 L1 ⟨rfl, rfl, hi, hcm⟩
    refine gc_seq ?_
    refine gc_seqr [(.mv, 0)] rfl ?_
    refine gr_rd rfl rfl rfl (rd_lss rfl rfl) ?_
    refine gr_nil ?_
    refine gk_then ?_
    refine gc_seq ?_
    refine gc_cond rfl (fun hc0 => ?_) (fun hc0 => ?_)
    · have hi32 : i < 32 := by simp at hc0; omega
      have hst := cmpB_step (byteN (n := p) hi32) (byteN (n := q) hi32)
      refine gc_skip ?_
      refine gk_then ?_
      refine gc_seq ?_
      refine gc_block ?_
      refine gc_seq ?_
      refine gc_seqr [(.mv, 0), (.mv, 1)] rfl ?_
      refine gr_rd rfl rfl rfl (rd_move rfl) ?_
      refine gr_rd rfl rfl rfl (rd_assign rfl) ?_
      refine gr_nil ?_
      refine gk_then ?_
      refine gc_seq ?_
      refine gc_seq ?_
      refine gc_draw Tryd.mixed [(.mv, 0), (.mv, 1), (.mv, 2), (.mv, 3), (.mv, 4), (.mv, 5), (.mv, 6)] (by decide +kernel) _ (List.Sublist.refl _) ?_
      refine gr_rd rfl rfl rfl (rd_move rfl) ?_
      refine gr_rd rfl rfl rfl (rd_indexA Tryd.underlying34 Tryd.sizeOf5 rfl rfl (by omega) (by omega)) ?_
      refine gr_rd rfl rfl rfl (rd_load1 Tryd.to5 rfl (Cells.own (List.mem_cons_of_mem _ List.mem_cons_self)) (cellN hi32)) ?_
      refine gr_rd rfl rfl rfl (rd_move rfl) ?_
      refine gr_rd rfl rfl rfl (rd_indexA Tryd.underlying34 Tryd.sizeOf5 rfl rfl (by omega) (by omega)) ?_
      refine gr_rd rfl rfl rfl (rd_load1 Tryd.to5 rfl (Cells.own List.mem_cons_self) (cellN hi32)) ?_
      refine gr_rd rfl rfl rfl (rd_lss rfl rfl) ?_
      refine gr_nil ?_
      refine gk_then ?_
      refine gc_cond rfl (fun hc1 => ?_) (fun hc1 => ?_)
      · have hlt1 := u8_lt.2 (of_decide_eq_true hc1)
        refine gc_seq ?_
        refine gc_seqr [(.mv, 0)] rfl ?_
        refine gr_rd rfl rfl rfl (rd_assign rfl) ?_
        refine gr_nil ?_
        refine gk_then ?_
        refine gc_ret ?_
        refine gk_ret_then ?_
        refine gk_ret_inBlock ?_
        refine gk_ret_then ?_
        refine gk_ret_then ?_
        refine gk_ret_inBlock ?_
        refine gk_ret_then ?_
        refine gk_result (L' := L) (.inl rfl) _ (res1 rfl rfl) (by repeat (first | exact List.Sublist.refl _ | apply List.Sublist.cons_cons | apply List.Sublist.cons | apply List.Sublist.append (List.Sublist.refl _) | refine List.Sublist.trans ?_ (List.sublist_append_right _ _))) (by first | exact Gh.le_refl _ | assumption | exact Gh.le_trans (by assumption) (by assumption)) ?_
        exact ⟨by rw [hcm, hst, if_pos hlt1], rfl, rfl⟩
      · have hlt1 := mt u8_lt.1 (of_decide_eq_false hc1)
        refine gc_skip ?_
        refine gk_then ?_
        refine gc_seq ?_
        refine gc_draw Tryd.mixed [(.mv, 0), (.mv, 1), (.mv, 2), (.mv, 3), (.mv, 4), (.mv, 5), (.mv, 6)] (by decide +kernel) _ (List.Sublist.refl _) ?_
        refine gr_rd rfl rfl rfl (rd_move rfl) ?_
        refine gr_rd rfl rfl rfl (rd_indexA Tryd.underlying34 Tryd.sizeOf5 rfl rfl (by omega) (by omega)) ?_
        refine gr_rd rfl rfl rfl (rd_load1 Tryd.to5 rfl (Cells.own (List.mem_cons_of_mem _ List.mem_cons_self)) (cellN hi32)) ?_
        refine gr_rd rfl rfl rfl (rd_move rfl) ?_
        refine gr_rd rfl rfl rfl (rd_indexA Tryd.underlying34 Tryd.sizeOf5 rfl rfl (by omega) (by omega)) ?_
        refine gr_rd rfl rfl rfl (rd_load1 Tryd.to5 rfl (Cells.own List.mem_cons_self) (cellN hi32)) ?_
        refine gr_rd rfl rfl rfl (rd_gtr rfl rfl) ?_
        refine gr_nil ?_
        refine gk_then ?_
        refine gc_cond rfl (fun hc2 => ?_) (fun hc2 => ?_)
        · have hlt2 := u8_lt.2 (of_decide_eq_true hc2)
          refine gc_seq ?_
          refine gc_seqr [(.mv, 0)] rfl ?_
          refine gr_rd rfl rfl rfl (rd_assign rfl) ?_
          refine gr_nil ?_
          refine gk_then ?_
          refine gc_ret ?_
          refine gk_ret_inBlock ?_
          refine gk_ret_then ?_
          refine gk_ret_then ?_
          refine gk_ret_inBlock ?_
          refine gk_ret_then ?_
          refine gk_result (L' := L) (.inl rfl) _ (res1 rfl rfl) (by repeat (first | exact List.Sublist.refl _ | apply List.Sublist.cons_cons | apply List.Sublist.cons | apply List.Sublist.append (List.Sublist.refl _) | refine List.Sublist.trans ?_ (List.sublist_append_right _ _))) (by first | exact Gh.le_refl _ | assumption | exact Gh.le_trans (by assumption) (by assumption)) ?_
          exact ⟨by rw [hcm, hst, if_neg hlt1, if_pos hlt2], rfl, rfl⟩
        · have hlt2 := mt u8_lt.1 (of_decide_eq_false hc2)
          refine gc_skip ?_
          refine gk_inBlock ?_
          refine gk_then ?_
          refine gc_seqr [(.mv, 0), (.mv, 1)] rfl ?_
          (first | refine gr_rd rfl rfl rfl (rd_add rfl rfl (IntWalk.i64_in _ (by omega))) ?_ | refine gr_rd rfl rfl rfl (rd_add rfl rfl rfl) ?_)
          refine gr_rd rfl rfl rfl (rd_move rfl) ?_
          refine gr_nil ?_
          refine gk_round (i + 1) (by omega) ⟨rfl, rfl, by omega, ?_⟩ (by repeat (first | exact Subs.nil | refine Subs.cons rfl ?_))
          rw [hcm, hst, if_neg hlt1, if_neg hlt2]
    · have hi32 : i = 32 := by simp at hc0; omega
      subst hi32
      rw [List.drop_eq_nil_of_le (by rw [p.len]; exact Nat.le_refl _), List.drop_eq_nil_of_le (by rw [q.len]; exact Nat.le_refl _)] at hcm
      refine gc_exit ?_
      refine gk_exit_then ?_
      refine gk_exit_then ?_
      refine gk_here ?_
      refine gk_then ?_
      refine gc_seq ?_
      refine gc_seqr [(.mv, 0)] rfl ?_
      refine gr_rd rfl rfl rfl (rd_assign rfl) ?_
      refine gr_nil ?_
      refine gk_then ?_
      refine gc_ret ?_
      refine gk_result (L' := L) (.inl rfl) _ (res1 rfl rfl) (by repeat (first | exact List.Sublist.refl _ | apply List.Sublist.cons_cons | apply List.Sublist.cons | apply List.Sublist.append (List.Sublist.refl _) | refine List.Sublist.trans ?_ (List.sublist_append_right _ _))) (by first | exact Gh.le_refl _ | assumption | exact Gh.le_trans (by assumption) (by assumption)) ?_
      exact ⟨by rw [hcm]; rfl, rfl, rfl⟩
end Go.Proofs.YtfhldfjknagidaaDoor
