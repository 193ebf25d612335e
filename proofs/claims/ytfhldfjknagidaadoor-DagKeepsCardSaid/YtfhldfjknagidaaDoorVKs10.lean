/-
  Walks: names in rising order; heads.
-/
import Derived.Test.YtfhldfjknagidaaDoorVKs9
set_option linter.unusedSimpArgs false
set_option linter.unusedVariables false
namespace Go.Proofs.YtfhldfjknagidaaDoor
open Go.VK Go.Tr
set_option maxRecDepth 20000
attribute [local irreducible] Go.Tr.sha
theorem takeWhile_at {α : Type} (p : α → Bool) : ∀ (xs : List α) (j : Nat), j ≤ xs.length → (∀ (i : Nat) y, i < j → xs[i]? = some y → p y = true) → (∀ y, xs[j]? = some y → p y = false) → xs.takeWhile p = xs.take j ∧ xs.dropWhile p = xs.drop j
  | [], 0, _, _, _ => by simp
  | [], j + 1, h, _, _ => by simp at h
  | x :: r, 0, _, _, h2 => by
    have := h2 x rfl
    simp [this]
  | x :: r, j + 1, h, h1, h2 => by
    have h0 := h1 0 x (by omega) rfl
    have ih := takeWhile_at p r j (by simpa using h) (fun i y hi hy => h1 (i + 1) y (by omega) (by simpa using hy)) (fun y hy => h2 y (by simpa using hy))
    simp [h0, ih.1, ih.2]
theorem ins_at {xs : List Nm} {x : Nm} {j : Nat} (hj : j ≤ xs.length) (h1 : ∀ i, i < j → cmp (xs.getD i Nm.zero) x < 0) (h2 : ∀ y, xs[j]? = some y → ¬ cmp y x < 0) : ins xs x = xs.take j ++ x :: xs.drop j := by
  have h := takeWhile_at (fun y => ltN y x) xs j hj (fun i y hi hy => by
    have := h1 i hi
    rw [List.getD_eq_getElem?_getD, hy] at this
    simpa [ltN] using this) (fun y hy => by simpa [ltN] using h2 y hy)
  rw [ins, h.1, h.2]
theorem ins_length (xs : List Nm) (x : Nm) : (ins xs x).length = xs.length + 1 := by
  have := congrArg List.length (List.takeWhile_append_dropWhile (p := fun y => ltN y x) (l := xs))
  rw [List.length_append] at this
  rw [ins, List.length_append, List.length_cons]; omega
theorem fold_length (l : List Nm) : ∀ (xs : List Nm), (l.foldl ins xs).length = xs.length + l.length := by
  induction l with
  | nil => intro xs; rfl
  | cons x r ih => intro xs; rw [List.foldl_cons, ih, ins_length, List.length_cons]; omega
theorem fold_take (l : List Nm) (k : Nat) (x : Nm) (h : l[k]? = some x) : (l.take (k + 1)).foldl ins [] = ins ((l.take k).foldl ins []) x := by
  rw [List.take_add_one, h]; simp [List.foldl_append]

set_option maxHeartbeats 1000000 in
theorem rising_cc (H : Gh) (L : Chunks) (v : Value) (l : List Nm) (hl : Ids H L v l) (hb : l.length < 16777216) :
    CC Tryd.prog 41 #[v] H L (fun u H' L' => ∃ C, Ow 34 32 C u (rising l).length ((rising l).flatMap encId) ∧ H = H' ∧ C ++ L = L') := by
  obtain ⟨A, bv, of, cv, lv, rfl, hcv, hnv, hv0, hv1, hv2⟩ := hl
  refine cc_of Tryd.func41 rfl (Nat.le_of_ble_eq_true rfl) ?_
  simp only [Tryd.ntmps41]
  refine gc_seq ?_
  refine gc_seqr [(.mv, 0)] rfl ?_
  refine gr_rd rfl rfl rfl (rd_assign rfl) ?_
  refine gr_nil ?_
  refine gk_then ?_
  refine gc_seq ?_
  refine gc_seqr [(.mv, 0)] rfl ?_
  refine gr_rd rfl rfl rfl (rd_assign rfl) ?_
  refine gr_nil ?_
  refine gk_then ?_
  refine gc_seq ?_
  refine gc_seq ?_
  refine gc_seqr [(.mv, 0), (.mv, 1), (.mv, 2)] rfl ?_
  refine gr_rd rfl rfl rfl (rd_move rfl) ?_
  refine gr_rd rfl rfl rfl (rd_lenS Tryd.underlying29 rfl) ?_
  refine gr_rd rfl rfl rfl (rd_move rfl) ?_
  refine gr_nil ?_
  refine gk_then ?_
  refine gc_block ?_
  refine gc_loop (fun s : Nat × List Nm × Value × Chunks => [(3, s.2.2.1), (8, .slice A l.length cv), (9, i64 l.length), (10, i64 s.1)]) (fun s H1 L1 => H = H1 ∧ L1 = s.2.2.2 ++ L ∧ s.1 ≤ l.length ∧ (l.take s.1).foldl ins [] = s.2.1 ∧ Ow 34 32 s.2.2.2 s.2.2.1 s.2.1.length (s.2.1.flatMap encId)) (fun s => l.length - s.1) ((0, [], .slice none 0 0, [])) ?_ (by repeat (first | exact Subs.nil | refine Subs.cons rfl ?_)) ?_
  · exact ⟨rfl, rfl, Nat.zero_le _, rfl, Ow.nil⟩
  · rintro ⟨k, xs, vo, C⟩ H1 L1 ⟨rfl, rfl, hk, hxs, hO⟩
    simp only at hk hxs hO
    show GC _ _ _ _ [(3, vo), (8, .slice A l.length cv), (9, i64 l.length), (10, i64 k)] H (C ++ L)
    refine gc_seq ?_
    refine gc_seqr [(.mv, 0)] rfl ?_
    refine gr_rd rfl rfl rfl (rd_lss rfl rfl) ?_
    refine gr_nil ?_
    refine gk_then ?_
    refine gc_seq ?_
    refine gc_cond rfl (fun hc0 => ?_) (fun hc0 => ?_)
    · have hlt : k < l.length := by simpa using hc0
      obtain ⟨hAe, hca, hsa⟩ := ids_at2 (i := (k : Int)) hv1 hv2 hlt rfl
      have hca1 : Cells H (C ++ L) bv lv := hca.mono (Gh.le_refl _) (fun x hx => List.mem_append_right _ hx)
      have hxl : xs.length = k := by rw [← hxs, fold_length, List.length_take]; simp; omega
      obtain ⟨Ao, co, rfl, hco⟩ := hO.slice
      have hS : Ids H (C ++ L) (.slice Ao xs.length co) xs := Ow.slT encId_length hO rfl (by omega) (fun x hx => List.mem_append_left _ hx)
      obtain ⟨Ao', bo, oo, co', lo, he, hco', hno, ho0, ho1, ho2⟩ := hS
      cases he
      refine gc_skip ?_
      refine gk_then ?_
      refine gc_seq ?_
      refine gc_block ?_
      refine gc_seq ?_
      refine gc_seqr [(.mv, 0), (.mv, 1), (.nm, 2), (.nm, 3)] rfl ?_
      refine gr_rd rfl rfl rfl (rd_indexS Tryd.underlying29 Tryd.sizeOf34 rfl rfl hAe (by omega) (by omega)) ?_
      refine gr_rd rfl rfl rfl (rd_loadA Tryd.ta34 rfl hca1 hsa (encId_length _)) ?_
      refine gr_nx rfl rfl rfl (nx_alloc Tryd.zeroValue34 rfl) ?_; rintro _ _ _ _ ⟨b5, rfl, rfl, rfl⟩; refine ⟨trivial, ?_⟩
      refine gr_nx0 rfl rfl (nx_store (vs := encId (l.getD k Nm.zero)) Tryd.sizeOf34 rfl rfl rfl (encId_length _) Upd.here (by simp) (encId_ones _)) ?_; rintro _ _ _ _ ⟨rfl, rfl, rfl⟩; refine ⟨trivial, ?_⟩
      rw [wr_all (by rw [encId_length]; exact Nat.le_refl _)]
      refine gr_nil ?_
      refine gk_then ?_
      refine gc_seq ?_
      refine gc_seqr [(.mv, 0)] rfl ?_
      refine gr_rd rfl rfl rfl (rd_assign rfl) ?_
      refine gr_nil ?_
      refine gk_then ?_
      refine gc_seq ?_
      refine gc_block ?_
      refine gc_loop (fun j : Nat => [(3, .slice Ao xs.length co), (5, pt b5 0), (6, i64 j), (8, .slice A l.length cv), (9, i64 l.length), (10, i64 k)]) (fun j H1 L1 => H = H1 ∧ (b5, .cells (encId (l.getD k Nm.zero)).toArray 34 (0, 0)) :: (C ++ L) = L1 ∧ j ≤ xs.length ∧ ∀ i, i < j → cmp (xs.getD i Nm.zero) (l.getD k Nm.zero) < 0) (fun j => xs.length - j) (0) ?_ (by repeat (first | exact Subs.nil | refine Subs.cons rfl ?_)) ?_
      · exact ⟨rfl, rfl, Nat.zero_le _, fun i hi => absurd hi (Nat.not_lt_zero _)⟩
      · rintro j H1 L1 ⟨rfl, rfl, hj, hlts⟩
        refine gc_seq ?_
        refine gc_seq ?_
        refine gc_draw Tryd.mixed [(.mv, 0), (.mv, 1), (.mv, 2), (.mv, 3), (.mv, 4), (.mv, 5), (.mv, 6), (.mv, 7), (.mv, 8), (.mv, 9), (.fin, 10), (.fin, 11), (.fin, 12)] (by decide +kernel) _ (List.Sublist.refl _) ?_
        refine gr_rd rfl rfl rfl (rd_move rfl) ?_
        refine gr_rd rfl rfl rfl (rd_move rfl) ?_
        refine gr_rd rfl rfl rfl (rd_lenS Tryd.underlying29 rfl) ?_
        refine gr_rd rfl rfl rfl (rd_lss rfl rfl) ?_
        refine gr_rd rfl rfl rfl (rd_move rfl) ?_
        refine gr_split rfl (fun hg4 => ?_) (fun hg4 => ?_)
        · have hjl : j < xs.length := by simpa using hg4
          obtain ⟨hAo, hco2, hso⟩ := ids_at2 (i := (j : Int)) ho1 ho2 hjl rfl
          refine gr_rd rfl rfl rfl (rd_move rfl) ?_
          refine gr_rd rfl rfl rfl (rd_move rfl) ?_
          refine gr_rd rfl rfl rfl (rd_indexS Tryd.underlying29 Tryd.sizeOf34 rfl rfl hAo (by omega) (by omega)) ?_
          refine gr_rd rfl rfl rfl (rd_loadA Tryd.ta34 rfl (mono_cons hco2) hso (encId_length _)) ?_
          refine gr_rd rfl rfl rfl (rd_loadA Tryd.ta34 rfl (by first | (apply Cells.own; (repeat (first | exact List.mem_cons_self | apply List.mem_cons_of_mem)); done) | assumption) (by first | exact Seg.all _ | exact Seg.head | assumption) (by first | exact encId_length _ | exact encOp_length _ _ | exact encDraft_length _ | rfl | simp)) ?_
          refine gr_fin rfl rfl rfl (nx_call Tryd.en57 rfl (rcmp_cc _ _ _ _)) ?_; rintro v24 H' L' hle ⟨rfl, rfl, rfl⟩
          (refine gr_fin rfl rfl rfl (Rd.nx (rd_lss rfl rfl)) ?_; rintro _ _ _ _ ⟨rfl, rfl, rfl⟩)
          (first | (refine gr_fin rfl rfl rfl (Rd.nx (rd_pick_t rfl rfl)) ?_; rintro _ _ _ _ ⟨rfl, rfl, rfl⟩) | (refine gr_fin rfl rfl rfl (Rd.nx (rd_pick_f rfl rfl)) ?_; rintro _ _ _ _ ⟨rfl, rfl, rfl⟩))
          refine gr_nil ?_
          refine gk_then ?_
          refine gc_cond rfl (fun hc1 => ?_) (fun hc1 => ?_)
          · skip
            refine gc_skip ?_
            refine gk_then ?_
            refine gc_block ?_
            refine gc_seqr [(.mv, 0), (.mv, 1), (.mv, 2)] rfl ?_
            refine gr_rd rfl rfl rfl (rd_move rfl) ?_
            (first | refine gr_rd rfl rfl rfl (rd_add rfl rfl (IntWalk.i64_in _ (by omega))) ?_ | refine gr_rd rfl rfl rfl (rd_add rfl rfl rfl) ?_)
            refine gr_rd rfl rfl rfl (rd_assign rfl) ?_
            refine gr_nil ?_
            refine gk_inBlock ?_
            refine gk_round (j + 1) (by omega) ⟨rfl, rfl, by omega, fun i hi => ?_⟩ (by repeat (first | exact Subs.nil | refine Subs.cons rfl ?_))
            by_cases e : i = j
            · subst e; simpa using hc1
            · exact hlts i (by omega)
          · first | have hins := ins_at (x := l.getD k Nm.zero) hj hlts (fun y hy => by rw [getD_at hjl] at hy; cases hy; simpa using hc1) | skip
            refine gc_exit ?_
            refine gk_exit_then ?_
            refine gk_exit_then ?_
            refine gk_here ?_
            refine gk_then ?_
            refine gc_seq ?_
            refine gc_seqr [(.nm, 0), (.mv, 1), (.mv, 2), (.mv, 3), (.nm, 4), (.mv, 5)] rfl ?_
            refine gr_nx rfl rfl rfl (nx_buildSlice (vs := []) Tryd.underlying29 Tryd.sizeOf34 Tryd.zeroValue34 rfl rfl rfl rfl (fun v hv => by cases hv) rfl rfl rfl) ?_; rintro _ _ _ _ ⟨b29, rfl, rfl, rfl⟩; refine ⟨trivial, ?_⟩
            refine gr_rd rfl rfl rfl (rd_move rfl) ?_
            refine gr_rd rfl rfl rfl (rd_move rfl) ?_
            refine gr_rd rfl rfl rfl (rd_sliceLoA Tryd.underlying29 Tryd.sizeOf34 rfl rfl (l := j) rfl (by omega) (by omega)) ?_
            refine gr_nx rfl rfl rfl (nx_append (m := xs.length - j) Tryd.app29_29 rfl rfl (Ow.new (b := b29) (e := 34) (k := 32) (n := 0) (cs := []) rfl) (by repeat (first | exact Pick.here | exact Pick.one | apply Pick.there | apply Pick.app)) (SlT.srcN encId_length encId_ones (SlT.lo (SlT.mono ⟨Ao, bo, oo, co, lo, rfl, hco, hno, ho0, ho1, ho2⟩ (Gh.le_refl _) (fun x hx => List.mem_cons_of_mem _ (List.mem_cons_of_mem _ hx))) (l := j) hj) (by simp)) (by omega) (by omega)) ?_; rintro v33 H' L' hle ⟨C1, hO1, _, rfl, rfl⟩; refine ⟨trivial, ?_⟩
            refine gr_rd rfl rfl rfl (rd_assign rfl) ?_
            refine gr_nil ?_
            refine gk_then ?_
            refine gc_draw Tryd.mixed [(.mv, 0), (.mv, 1), (.mv, 2), (.mv, 3), (.mv, 4), (.mv, 7), (.nm, 5), (.nm, 6), (.fin, 8), (.fin, 9)] (by decide +kernel) _ (List.Sublist.refl _) ?_
            refine gr_rd rfl rfl rfl (rd_move rfl) ?_
            refine gr_rd rfl rfl rfl (rd_move rfl) ?_
            refine gr_rd rfl rfl rfl (rd_move rfl) ?_
            refine gr_rd rfl rfl rfl (rd_slice3 Tryd.underlying29 Tryd.sizeOf34 rfl rfl rfl rfl rfl (by omega)) ?_
            refine gr_rd rfl rfl rfl (rd_loadA Tryd.ta34 rfl (Cells.own (List.mem_append_right _ List.mem_cons_self)) (Seg.all _) (encId_length _)) ?_
            refine gr_rd rfl rfl rfl (rd_move rfl) ?_
            refine gr_nx rfl rfl rfl (nx_sliceA1 Tryd.underlying29 Tryd.sizeOf34 Tryd.zeroValue34 rfl rfl rfl (by first | exact encId_length _ | exact encOp_length _ _ | exact encDraft_length _ | rfl | simp) rfl) ?_; rintro _ _ _ _ ⟨b39, rfl, rfl, rfl⟩; refine ⟨⟨(by first | exact Gh.le_refl _ | assumption | exact Gh.le_trans (by assumption) (by assumption)), (by repeat (first | exact List.Sublist.refl _ | exact List.nil_sublist _ | apply List.Sublist.cons_cons | apply List.Sublist.cons | apply List.Sublist.append (List.Sublist.refl _) | refine List.Sublist.trans ?_ (List.sublist_append_right _ _)))⟩, ?_⟩
            refine gr_nx rfl rfl rfl (nx_append_full (n := j) (m := 1) Tryd.app29_29 rfl rfl (SlT.srcN encId_length encId_ones (SlT.hi (SlT.mono ⟨Ao, bo, oo, co, lo, rfl, hco, hno, ho0, ho1, ho2⟩ (Gh.le_refl _) (fun x hx => List.mem_cons_of_mem _ (List.mem_append_right _ (List.mem_cons_of_mem _ hx)))) (h' := j) hj (Nat.le_refl _) (fun ha => by have := (ho0 ha).1; rw [this] at hj; simpa using hj)) (by simp; omega)) (src_slice (b := b39) (o := 0) (l := encId (l.getD k Nm.zero)) (m := 1) (by simp) (encId_ones _) (fun h => by cases h) (fun _ _ => ⟨rfl, Cells.own List.mem_cons_self, Seg.all _⟩)) (by omega) (by omega) (by omega)) ?_; rintro v40 H' L' hle ⟨C2, hO2, rfl, rfl⟩; refine ⟨⟨(by first | exact Gh.le_refl _ | assumption | exact Gh.le_trans (by assumption) (by assumption)), (by repeat (first | exact List.Sublist.refl _ | exact List.nil_sublist _ | apply List.Sublist.cons_cons | apply List.Sublist.cons | apply List.Sublist.append (List.Sublist.refl _) | refine List.Sublist.trans ?_ (List.sublist_append_right _ _)))⟩, ?_⟩
            refine gr_fin rfl rfl rfl (nx_append (n := j + 1) (m := xs.length - j) Tryd.app29_29 rfl rfl hO2 (by repeat (first | exact Pick.here | exact Pick.one | apply Pick.there | apply Pick.app)) (SlT.srcN encId_length encId_ones (Ow.slT (xs := xs.drop j) encId_length (by simpa using hO1) (by simp) (by omega) (fun x hx => List.mem_append_right _ (List.mem_cons_of_mem _ (List.mem_append_left _ hx)))) (by simp)) (by omega) (by omega)) ?_; rintro v42 H' L' hle ⟨C3, hO3, _, rfl, rfl⟩
            refine gr_fin rfl rfl rfl (Rd.nx (rd_assign rfl)) ?_; rintro _ _ _ _ ⟨rfl, rfl, rfl⟩
            refine gr_nil ?_
            refine gk_inBlock ?_
            refine gk_then ?_
            refine gc_seqr [(.mv, 0), (.mv, 1)] rfl ?_
            (first | refine gr_rd rfl rfl rfl (rd_add rfl rfl (IntWalk.i64_in _ (by omega))) ?_ | refine gr_rd rfl rfl rfl (rd_add rfl rfl rfl) ?_)
            refine gr_rd rfl rfl rfl (rd_move rfl) ?_
            refine gr_nil ?_
            have hins2 : ins xs (l.getD k Nm.zero) = xs.take j ++ l.getD k Nm.zero :: xs.drop j := hins
            refine gk_drop (L' := C3 ++ L) (by repeat (first | exact List.Sublist.refl _ | apply List.Sublist.cons_cons | apply List.Sublist.cons | apply List.Sublist.append (List.Sublist.refl _) | refine List.Sublist.trans ?_ (List.sublist_append_right _ _))) ?_
            refine gk_round (k + 1, ins xs (l.getD k Nm.zero), _, C3) ?_ ?_ (by repeat (first | exact Subs.nil | refine Subs.cons rfl ?_))
            · show l.length - (k + 1) < l.length - k
              omega
            · refine ⟨rfl, rfl, by simp only; omega, (fold_take l k _ (getD_at hlt)).trans (by rw [hxs]), ?_⟩
              simp only
              rw [ins_length, hins2]
              have e : j + 1 + (xs.length - j) = xs.length + 1 := by omega
              rw [e] at hO3
              simpa using hO3
        · have hjl : j = xs.length := by simp at hg4; omega
          have hins := ins_at (x := l.getD k Nm.zero) hj hlts (fun y hy => by rw [hjl] at hy; simp at hy)
          refine gr_no rfl rfl rfl ?_
          refine gr_no rfl rfl rfl ?_
          refine gr_no rfl rfl rfl ?_
          refine gr_no rfl rfl rfl ?_
          refine gr_no rfl rfl rfl ?_
          refine gr_no rfl rfl rfl ?_
          refine gr_no rfl rfl rfl ?_
          (first | (refine gr_fin rfl rfl rfl (Rd.nx (rd_pick_t rfl rfl)) ?_; rintro _ _ _ _ ⟨rfl, rfl, rfl⟩) | (refine gr_fin rfl rfl rfl (Rd.nx (rd_pick_f rfl rfl)) ?_; rintro _ _ _ _ ⟨rfl, rfl, rfl⟩))
          refine gr_nil ?_
          refine gk_then ?_
          refine gc_no rfl ?_
          first | have hins := ins_at (x := l.getD k Nm.zero) hj hlts (fun y hy => by rw [getD_at hjl] at hy; cases hy; simpa using hc1) | skip
          refine gc_exit ?_
          refine gk_exit_then ?_
          refine gk_exit_then ?_
          refine gk_here ?_
          refine gk_then ?_
          refine gc_seq ?_
          refine gc_seqr [(.nm, 0), (.mv, 1), (.mv, 2), (.mv, 3), (.nm, 4), (.mv, 5)] rfl ?_
          refine gr_nx rfl rfl rfl (nx_buildSlice (vs := []) Tryd.underlying29 Tryd.sizeOf34 Tryd.zeroValue34 rfl rfl rfl rfl (fun v hv => by cases hv) rfl rfl rfl) ?_; rintro _ _ _ _ ⟨b29, rfl, rfl, rfl⟩; refine ⟨trivial, ?_⟩
          refine gr_rd rfl rfl rfl (rd_move rfl) ?_
          refine gr_rd rfl rfl rfl (rd_move rfl) ?_
          refine gr_rd rfl rfl rfl (rd_sliceLoA Tryd.underlying29 Tryd.sizeOf34 rfl rfl (l := j) rfl (by omega) (by omega)) ?_
          refine gr_nx rfl rfl rfl (nx_append (m := xs.length - j) Tryd.app29_29 rfl rfl (Ow.new (b := b29) (e := 34) (k := 32) (n := 0) (cs := []) rfl) (by repeat (first | exact Pick.here | exact Pick.one | apply Pick.there | apply Pick.app)) (SlT.srcN encId_length encId_ones (SlT.lo (SlT.mono ⟨Ao, bo, oo, co, lo, rfl, hco, hno, ho0, ho1, ho2⟩ (Gh.le_refl _) (fun x hx => List.mem_cons_of_mem _ (List.mem_cons_of_mem _ hx))) (l := j) hj) (by simp)) (by omega) (by omega)) ?_; rintro v33 H' L' hle ⟨C1, hO1, _, rfl, rfl⟩; refine ⟨trivial, ?_⟩
          refine gr_rd rfl rfl rfl (rd_assign rfl) ?_
          refine gr_nil ?_
          refine gk_then ?_
          refine gc_draw Tryd.mixed [(.mv, 0), (.mv, 1), (.mv, 2), (.mv, 3), (.mv, 4), (.mv, 7), (.nm, 5), (.nm, 6), (.fin, 8), (.fin, 9)] (by decide +kernel) _ (List.Sublist.refl _) ?_
          refine gr_rd rfl rfl rfl (rd_move rfl) ?_
          refine gr_rd rfl rfl rfl (rd_move rfl) ?_
          refine gr_rd rfl rfl rfl (rd_move rfl) ?_
          refine gr_rd rfl rfl rfl (rd_slice3 Tryd.underlying29 Tryd.sizeOf34 rfl rfl rfl rfl rfl (by omega)) ?_
          refine gr_rd rfl rfl rfl (rd_loadA Tryd.ta34 rfl (Cells.own (List.mem_append_right _ List.mem_cons_self)) (Seg.all _) (encId_length _)) ?_
          refine gr_rd rfl rfl rfl (rd_move rfl) ?_
          refine gr_nx rfl rfl rfl (nx_sliceA1 Tryd.underlying29 Tryd.sizeOf34 Tryd.zeroValue34 rfl rfl rfl (by first | exact encId_length _ | exact encOp_length _ _ | exact encDraft_length _ | rfl | simp) rfl) ?_; rintro _ _ _ _ ⟨b39, rfl, rfl, rfl⟩; refine ⟨⟨(by first | exact Gh.le_refl _ | assumption | exact Gh.le_trans (by assumption) (by assumption)), (by repeat (first | exact List.Sublist.refl _ | exact List.nil_sublist _ | apply List.Sublist.cons_cons | apply List.Sublist.cons | apply List.Sublist.append (List.Sublist.refl _) | refine List.Sublist.trans ?_ (List.sublist_append_right _ _)))⟩, ?_⟩
          refine gr_nx rfl rfl rfl (nx_append_full (n := j) (m := 1) Tryd.app29_29 rfl rfl (SlT.srcN encId_length encId_ones (SlT.hi (SlT.mono ⟨Ao, bo, oo, co, lo, rfl, hco, hno, ho0, ho1, ho2⟩ (Gh.le_refl _) (fun x hx => List.mem_cons_of_mem _ (List.mem_append_right _ (List.mem_cons_of_mem _ hx)))) (h' := j) hj (Nat.le_refl _) (fun ha => by have := (ho0 ha).1; rw [this] at hj; simpa using hj)) (by simp; omega)) (src_slice (b := b39) (o := 0) (l := encId (l.getD k Nm.zero)) (m := 1) (by simp) (encId_ones _) (fun h => by cases h) (fun _ _ => ⟨rfl, Cells.own List.mem_cons_self, Seg.all _⟩)) (by omega) (by omega) (by omega)) ?_; rintro v40 H' L' hle ⟨C2, hO2, rfl, rfl⟩; refine ⟨⟨(by first | exact Gh.le_refl _ | assumption | exact Gh.le_trans (by assumption) (by assumption)), (by repeat (first | exact List.Sublist.refl _ | exact List.nil_sublist _ | apply List.Sublist.cons_cons | apply List.Sublist.cons | apply List.Sublist.append (List.Sublist.refl _) | refine List.Sublist.trans ?_ (List.sublist_append_right _ _)))⟩, ?_⟩
          refine gr_fin rfl rfl rfl (nx_append (n := j + 1) (m := xs.length - j) Tryd.app29_29 rfl rfl hO2 (by repeat (first | exact Pick.here | exact Pick.one | apply Pick.there | apply Pick.app)) (SlT.srcN encId_length encId_ones (Ow.slT (xs := xs.drop j) encId_length (by simpa using hO1) (by simp) (by omega) (fun x hx => List.mem_append_right _ (List.mem_cons_of_mem _ (List.mem_append_left _ hx)))) (by simp)) (by omega) (by omega)) ?_; rintro v42 H' L' hle ⟨C3, hO3, _, rfl, rfl⟩
          refine gr_fin rfl rfl rfl (Rd.nx (rd_assign rfl)) ?_; rintro _ _ _ _ ⟨rfl, rfl, rfl⟩
          refine gr_nil ?_
          refine gk_inBlock ?_
          refine gk_then ?_
          refine gc_seqr [(.mv, 0), (.mv, 1)] rfl ?_
          (first | refine gr_rd rfl rfl rfl (rd_add rfl rfl (IntWalk.i64_in _ (by omega))) ?_ | refine gr_rd rfl rfl rfl (rd_add rfl rfl rfl) ?_)
          refine gr_rd rfl rfl rfl (rd_move rfl) ?_
          refine gr_nil ?_
          have hins2 : ins xs (l.getD k Nm.zero) = xs.take j ++ l.getD k Nm.zero :: xs.drop j := hins
          refine gk_drop (L' := C3 ++ L) (by repeat (first | exact List.Sublist.refl _ | apply List.Sublist.cons_cons | apply List.Sublist.cons | apply List.Sublist.append (List.Sublist.refl _) | refine List.Sublist.trans ?_ (List.sublist_append_right _ _))) ?_
          refine gk_round (k + 1, ins xs (l.getD k Nm.zero), _, C3) ?_ ?_ (by repeat (first | exact Subs.nil | refine Subs.cons rfl ?_))
          · show l.length - (k + 1) < l.length - k
            omega
          · refine ⟨rfl, rfl, by simp only; omega, (fold_take l k _ (getD_at hlt)).trans (by rw [hxs]), ?_⟩
            simp only
            rw [ins_length, hins2]
            have e : j + 1 + (xs.length - j) = xs.length + 1 := by omega
            rw [e] at hO3
            simpa using hO3
    · have hge : k = l.length := by simp at hc0; omega
      subst hge
      rw [List.take_length] at hxs
      have hr : rising l = xs := hxs
      refine gc_exit ?_
      refine gk_exit_then ?_
      refine gk_exit_then ?_
      refine gk_here ?_
      refine gk_then ?_
      refine gc_seq ?_
      refine gc_seqr [(.mv, 0), (.mv, 1)] rfl ?_
      refine gr_rd rfl rfl rfl (rd_move rfl) ?_
      refine gr_rd rfl rfl rfl (rd_assign rfl) ?_
      refine gr_nil ?_
      refine gk_then ?_
      refine gc_ret ?_
      refine gk_result (L' := C ++ L) (.inl rfl) _ (res1 rfl rfl) (by repeat (first | exact List.Sublist.refl _ | apply List.Sublist.cons_cons | apply List.Sublist.cons | apply List.Sublist.append (List.Sublist.refl _) | refine List.Sublist.trans ?_ (List.sublist_append_right _ _))) (by first | exact Gh.le_refl _ | assumption | exact Gh.le_trans (by assumption) (by assumption)) ?_
      exact ⟨C, by rw [hr]; exact hO, rfl, rfl⟩
end Go.Proofs.YtfhldfjknagidaaDoor
