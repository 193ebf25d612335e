/-
  Walks: the reference's names, waits and heads; same operations.
-/
import Derived.Test.YtfhldfjknagidaaDoorVKs10
set_option linter.unusedSimpArgs false
set_option linter.unusedVariables false
namespace Go.Proofs.YtfhldfjknagidaaDoor
open Go.VK Go.Tr
set_option maxRecDepth 20000
attribute [local irreducible] Go.Tr.sha
/-- What stands behind n, of these operations. -/
def anyB (l : List POp) (n : Nm) : Bool := l.any fun q => q.preds.any fun p => p == n
theorem behind_any {s : DSet} {n : Nm} {l : List (POp × Value)} (h : l.map (·.1) = s.ops.map (·.2)) : behind s n = anyB (l.map (·.1)) n := by
  rw [h, anyB, List.any_map]; rfl
theorem anyB_take {l : List POp} {k : Nat} {o : POp} (n : Nm) (h : l[k]? = some o) : anyB (l.take (k + 1)) n = (anyB (l.take k) n || o.preds.any fun p => p == n) := by
  rw [List.take_add_one, h]; simp [anyB]
theorem any_take {l : List Nm} {k : Nat} (n : Nm) (h : k < l.length) : ((l.take (k + 1)).any fun p => p == n) = (((l.take k).any fun p => p == n) || (l.getD k Nm.zero == n)) := by
  rw [List.take_add_one, getD_at h]; simp
theorem filter_take {l : List Nm} {k : Nat} (p : Nm → Bool) (h : k < l.length) : (l.take (k + 1)).filter p = (l.take k).filter p ++ (if p (l.getD k Nm.zero) then [l.getD k Nm.zero] else []) := by
  rw [List.take_add_one, getD_at h]; simp [List.filter_append, List.filter_cons]

theorem rnames_cc (H : Gh) (L : Chunks) {b : Nat} {s : DSet} {v0 v1 v2 v3 : Value} {ov wv : List (POp × Value)} (hV : RView H L b s v0 v1 v2 v3 ov wv) (hb : s.ops.length < 16777216) :
    CC Tryd.prog 58 #[pt b 0] H L (fun u H' L' => ∃ C, Ow 34 32 C u (names s).length ((names s).flatMap encId) ∧ H = H' ∧ C ++ L = L') := by
  refine cc_of Tryd.func58 rfl (Nat.le_of_ble_eq_true rfl) ?_
  simp only [Tryd.ntmps58]
  refine gc_seq ?_
  refine gc_seqr [(.mv, 0)] rfl ?_
  refine gr_rd rfl rfl rfl (rd_assign rfl) ?_
  refine gr_nil ?_
  refine gk_then ?_
  refine gc_seq ?_
  refine gc_seqr [(.mv, 0), (.mv, 1), (.mv, 2), (.mv, 3), (.nm, 4), (.mv, 5)] rfl ?_
  refine gr_rd rfl rfl rfl (rd_move rfl) ?_
  refine gr_rd rfl rfl rfl (rd_nilCheck rfl) ?_
  refine gr_rd rfl rfl rfl (rd_fieldAddr Tryd.fa48_2 rfl) ?_
  refine gr_rd rfl rfl rfl (rd_load1 Tryd.to29 rfl hV.cells rfl) ?_
  refine gr_nx rfl rfl rfl (nx_call Tryd.en41 rfl (rising_cc _ _ _ _ hV.names (by simpa using hb))) ?_; rintro v7 H' L' hle ⟨C, hO, rfl, rfl⟩; refine ⟨trivial, ?_⟩
  refine gr_rd rfl rfl rfl (rd_assign rfl) ?_
  refine gr_nil ?_
  refine gk_then ?_
  refine gc_ret ?_
  refine gk_result (L' := C ++ L) (.inl rfl) _ (res1 rfl rfl) (by repeat (first | exact List.Sublist.refl _ | apply List.Sublist.cons_cons | apply List.Sublist.cons | apply List.Sublist.append (List.Sublist.refl _) | refine List.Sublist.trans ?_ (List.sublist_append_right _ _))) (by first | exact Gh.le_refl _ | assumption | exact Gh.le_trans (by assumption) (by assumption)) ?_
  exact ⟨C, hO, rfl, rfl⟩
theorem rwaits_cc (H : Gh) (L : Chunks) {b : Nat} {s : DSet} {v0 v1 v2 v3 : Value} {ov wv : List (POp × Value)} (hV : RView H L b s v0 v1 v2 v3 ov wv) (hb : s.wait.length < 16777216) :
    CC Tryd.prog 24 #[pt b 0] H L (fun u H' L' => ∃ C, Ow 34 32 C u (waits s).length ((waits s).flatMap encId) ∧ H = H' ∧ C ++ L = L') := by
  refine cc_of Tryd.func24 rfl (Nat.le_of_ble_eq_true rfl) ?_
  simp only [Tryd.ntmps24]
  refine gc_seq ?_
  refine gc_seqr [(.mv, 0)] rfl ?_
  refine gr_rd rfl rfl rfl (rd_assign rfl) ?_
  refine gr_nil ?_
  refine gk_then ?_
  refine gc_seq ?_
  refine gc_seqr [(.mv, 0), (.mv, 1), (.mv, 2), (.mv, 3), (.nm, 4), (.mv, 5)] rfl ?_
  refine gr_rd rfl rfl rfl (rd_move rfl) ?_
  refine gr_rd rfl rfl rfl (rd_nilCheck rfl) ?_
  refine gr_rd rfl rfl rfl (rd_fieldAddr Tryd.fa48_3 rfl) ?_
  refine gr_rd rfl rfl rfl (rd_load1 Tryd.to29 rfl hV.cells rfl) ?_
  refine gr_nx rfl rfl rfl (nx_call Tryd.en41 rfl (rising_cc _ _ _ _ hV.waits (by simpa using hb))) ?_; rintro v7 H' L' hle ⟨C, hO, rfl, rfl⟩; refine ⟨trivial, ?_⟩
  refine gr_rd rfl rfl rfl (rd_assign rfl) ?_
  refine gr_nil ?_
  refine gk_then ?_
  refine gc_ret ?_
  refine gk_result (L' := C ++ L) (.inl rfl) _ (res1 rfl rfl) (by repeat (first | exact List.Sublist.refl _ | apply List.Sublist.cons_cons | apply List.Sublist.cons | apply List.Sublist.append (List.Sublist.refl _) | refine List.Sublist.trans ?_ (List.sublist_append_right _ _))) (by first | exact Gh.le_refl _ | assumption | exact Gh.le_trans (by assumption) (by assumption)) ?_
  exact ⟨C, hO, rfl, rfl⟩
set_option maxHeartbeats 1000000 in
theorem rheads_cc (H : Gh) (L : Chunks) {b : Nat} {s : DSet} {v0 v1 v2 v3 : Value} {ov wv : List (POp × Value)} (hV : RView H L b s v0 v1 v2 v3 ov wv) (hb : s.ops.length < 16777216) :
    CC Tryd.prog 59 #[pt b 0] H L (fun u H' L' => ∃ C, Ow 34 32 C u (heads s).length ((heads s).flatMap encId) ∧ H = H' ∧ C ++ L = L') := by
  obtain ⟨ns, hns⟩ : ∃ ns, s.ops.map (·.1) = ns := ⟨_, rfl⟩
  have hN := hV.names
  rw [hns] at hN
  have hnl : ns.length = s.ops.length := by rw [← hns]; simp
  obtain ⟨A, bv, of, cv, lv, rfl, hcv, hnv, hv0, hv1, hv2⟩ := hN
  obtain ⟨⟨A0, bo, oo, co, lo, rfl, hco, hno, ho0, ho1, ho2⟩, hop⟩ := hV.ops
  have hovl : ov.length = s.ops.length := by have := congrArg List.length hV.opsE; simpa using this
  refine cc_of Tryd.func59 rfl (Nat.le_of_ble_eq_true rfl) ?_
  simp only [Tryd.ntmps59]
  refine gc_seq ?_
  refine gc_seqr [(.mv, 0)] rfl ?_
  refine gr_rd rfl rfl rfl (rd_assign rfl) ?_
  refine gr_nil ?_
  refine gk_then ?_
  refine gc_seq ?_
  refine gc_seqr [(.mv, 0)] rfl ?_
  refine gr_rd rfl rfl rfl (rd_assign rfl) ?_
  refine gr_nil ?_
  refine gk_then ?_
  refine gc_seq ?_
  refine gc_seq ?_
  refine gc_seqr [(.mv, 0), (.mv, 1), (.mv, 2), (.mv, 3), (.mv, 4), (.mv, 5)] rfl ?_
  refine gr_rd rfl rfl rfl (rd_move rfl) ?_
  refine gr_rd rfl rfl rfl (rd_nilCheck rfl) ?_
  refine gr_rd rfl rfl rfl (rd_fieldAddr Tryd.fa48_2 rfl) ?_
  refine gr_rd rfl rfl rfl (rd_load1 Tryd.to29 rfl hV.cells rfl) ?_
  refine gr_rd rfl rfl rfl (rd_lenS Tryd.underlying29 rfl) ?_
  refine gr_rd rfl rfl rfl (rd_move rfl) ?_
  refine gr_nil ?_
  refine gk_then ?_
  refine gc_block ?_
  refine gc_loop (fun t : Nat × Value × Chunks => [(0, pt b 0), (3, t.2.1), (14, .slice A ns.length cv), (15, i64 ns.length), (16, i64 t.1)]) (fun t H1 L1 => H = H1 ∧ L1 = t.2.2 ++ L ∧ t.1 ≤ ns.length ∧ Ow 34 32 t.2.2 t.2.1 ((ns.take t.1).filter fun n => !behind s n).length (((ns.take t.1).filter fun n => !behind s n).flatMap encId)) (fun t => ns.length - t.1) ((0, .slice none 0 0, [])) ?_ (by repeat (first | exact Subs.nil | refine Subs.cons rfl ?_)) ?_
  · exact ⟨rfl, rfl, Nat.zero_le _, Ow.nil⟩
  · rintro ⟨k, vo, C⟩ H1 L1 ⟨rfl, rfl, hk, hO⟩
    simp only at hk hO
    show GC _ _ _ _ [(0, pt b 0), (3, vo), (14, .slice A ns.length cv), (15, i64 ns.length), (16, i64 k)] H (C ++ L)
    refine gc_seq ?_
    refine gc_seqr [(.mv, 0)] rfl ?_
    refine gr_rd rfl rfl rfl (rd_lss rfl rfl) ?_
    refine gr_nil ?_
    refine gk_then ?_
    refine gc_seq ?_
    refine gc_cond rfl (fun hc0 => ?_) (fun hc0 => ?_)
    · have hlt : k < ns.length := by simpa using hc0
      obtain ⟨hAe, hca, hsa⟩ := ids_at2 (i := (k : Int)) hv1 hv2 hlt rfl
      have hca1 : Cells H (C ++ L) bv lv := hca.mono (Gh.le_refl _) (fun x hx => List.mem_append_right _ hx)
      have hVc : Cells H (C ++ L) b [.slice A0 ov.length co, v1, .slice A ns.length cv, v3] := hV.cells.mono (Gh.le_refl _) (fun x hx => List.mem_append_right _ hx)
      refine gc_skip ?_
      refine gk_then ?_
      refine gc_seq ?_
      refine gc_block ?_
      refine gc_seq ?_
      refine gc_seqr [(.mv, 0), (.mv, 1), (.nm, 2), (.nm, 3)] rfl ?_
      refine gr_rd rfl rfl rfl (rd_indexS Tryd.underlying29 Tryd.sizeOf34 rfl rfl hAe (by omega) (by omega)) ?_
      refine gr_rd rfl rfl rfl (rd_loadA Tryd.ta34 rfl hca1 hsa (encId_length _)) ?_
      refine gr_nx rfl rfl rfl (nx_alloc Tryd.zeroValue34 rfl) ?_; rintro _ _ _ _ ⟨b5, rfl, rfl, rfl⟩; refine ⟨trivial, ?_⟩
      refine gr_nx0 rfl rfl (nx_store (vs := encId (ns.getD k Nm.zero)) Tryd.sizeOf34 rfl rfl rfl (encId_length _) Upd.here (by simp) (encId_ones _)) ?_; rintro _ _ _ _ ⟨rfl, rfl, rfl⟩; refine ⟨trivial, ?_⟩
      rw [wr_all (by simp)]
      refine gr_nil ?_
      refine gk_then ?_
      refine gc_seq ?_
      refine gc_seqr [(.mv, 0)] rfl ?_
      refine gr_rd rfl rfl rfl (rd_assign rfl) ?_
      refine gr_nil ?_
      refine gk_then ?_
      refine gc_seq ?_
      refine gc_seq ?_
      refine gc_seqr [(.mv, 0), (.mv, 1), (.mv, 2), (.mv, 3), (.mv, 4), (.mv, 5)] rfl ?_
      refine gr_rd rfl rfl rfl (rd_move rfl) ?_
      refine gr_rd rfl rfl rfl (rd_nilCheck rfl) ?_
      refine gr_rd rfl rfl rfl (rd_fieldAddr Tryd.fa48_0 rfl) ?_
      refine gr_rd rfl rfl rfl (rd_load1 Tryd.to25 rfl (mono_cons hVc) rfl) ?_
      refine gr_rd rfl rfl rfl (rd_lenS Tryd.underlying25 rfl) ?_
      refine gr_rd rfl rfl rfl (rd_move rfl) ?_
      refine gr_nil ?_
      refine gk_then ?_
      refine gc_block ?_
      refine gc_loop (fun i : Nat => [(0, pt b 0), (3, vo), (5, pt b5 0), (6, .bool (anyB ((ov.map (·.1)).take i) (ns.getD k Nm.zero))), (14, .slice A ns.length cv), (15, i64 ns.length), (16, i64 k), (23, .slice A0 ov.length co), (24, i64 ov.length), (25, i64 i)]) (fun i H1 L1 => H = H1 ∧ (b5, .cells (encId (ns.getD k Nm.zero)).toArray 34 (0, 0)) :: (C ++ L) = L1 ∧ i ≤ ov.length) (fun i => ov.length - i) (0) ?_ (by repeat (first | exact Subs.nil | refine Subs.cons rfl ?_)) ?_
      · exact ⟨rfl, rfl, Nat.zero_le _⟩
      · rintro i H1 L1 ⟨rfl, rfl, hi⟩
        refine gc_seq ?_
        refine gc_seqr [(.mv, 0)] rfl ?_
        refine gr_rd rfl rfl rfl (rd_lss rfl rfl) ?_
        refine gr_nil ?_
        refine gk_then ?_
        refine gc_seq ?_
        refine gc_cond rfl (fun hc1 => ?_) (fun hc1 => ?_)
        · have hlti : i < ov.length := by simpa using hc1
          obtain ⟨hA0, hc0'⟩ := ho1 (List.ne_nil_of_length_pos (by omega))
          have hs0 := ho2 i _ (List.getElem?_eq_getElem hlti)
          have hoi : (ov.map (·.1))[i]? = some (ov[i]).1 := by simp [hlti]
          obtain ⟨Ap, bp, op, cp, lp, hpe, hcp, hnp, hp0, hp1, hp2⟩ := hop _ (List.getElem_mem hlti)
          have hc01 : Cells H ((b5, .cells (encId (ns.getD k Nm.zero)).toArray 34 (0, 0)) :: (C ++ L)) bo lo := hc0'.mono (Gh.le_refl _) (fun x hx => List.mem_cons_of_mem _ (List.mem_append_right _ hx))
          refine gc_skip ?_
          refine gk_then ?_
          refine gc_seq ?_
          refine gc_block ?_
          refine gc_seq ?_
          refine gc_seqr [(.mv, 0), (.mv, 1), (.nm, 2), (.nm, 3)] rfl ?_
          refine gr_rd rfl rfl rfl (rd_indexS Tryd.underlying25 Tryd.sizeOf38 rfl rfl hA0 (by omega) (by omega)) ?_
          refine gr_rd rfl rfl rfl (rd_loadA Tryd.ta38 rfl hc01 (by rw [Int.toNat_natCast]; exact hs0) (encOpV_length _)) ?_
          refine gr_nx rfl rfl rfl (nx_alloc Tryd.zeroValue38 rfl) ?_; rintro _ _ _ _ ⟨b8, rfl, rfl, rfl⟩; refine ⟨trivial, ?_⟩
          refine gr_nx0 rfl rfl (nx_store (vs := encOpV ov[i]) Tryd.sizeOf38 rfl rfl rfl (encOpV_length _) Upd.here (by simp) (encOp_ones _ (SlT.one (hop _ (List.getElem_mem hlti))))) ?_; rintro _ _ _ _ ⟨rfl, rfl, rfl⟩; refine ⟨trivial, ?_⟩
          rw [wr_all (by simp)]
          refine gr_nil ?_
          refine gk_then ?_
          refine gc_seq ?_
          refine gc_seqr [(.mv, 0), (.mv, 1), (.mv, 2), (.mv, 3)] rfl ?_
          refine gr_rd rfl rfl rfl (rd_fieldAddr Tryd.fa38_3 rfl) ?_
          refine gr_rd rfl rfl rfl (rd_load1 Tryd.to29 rfl (Cells.own List.mem_cons_self) (v := .slice Ap (ov[i]).1.preds.length cp) (by rw [← hpe]; exact encOp_37 _ _)) ?_
          refine gr_rd rfl rfl rfl (rd_lenS Tryd.underlying29 rfl) ?_
          refine gr_rd rfl rfl rfl (rd_move rfl) ?_
          refine gr_nil ?_
          refine gk_then ?_
          refine gc_block ?_
          refine gc_loop (fun j : Nat => [(0, pt b 0), (3, vo), (5, pt b5 0), (6, .bool (anyB ((ov.map (·.1)).take i) (ns.getD k Nm.zero) || ((ov[i]).1.preds.take j).any fun p => p == ns.getD k Nm.zero)), (14, .slice A ns.length cv), (15, i64 ns.length), (16, i64 k), (23, .slice A0 ov.length co), (24, i64 ov.length), (25, i64 i), (30, .slice Ap (ov[i]).1.preds.length cp), (31, i64 (ov[i]).1.preds.length), (32, i64 j)]) (fun j H1 L1 => H = H1 ∧ (b8, .cells (encOpV ov[i]).toArray 38 (0, 0)) :: (b5, .cells (encId (ns.getD k Nm.zero)).toArray 34 (0, 0)) :: (C ++ L) = L1 ∧ j ≤ (ov[i]).1.preds.length) (fun j => (ov[i]).1.preds.length - j) (0) ?_ (by refine Subs.cons rfl (Subs.cons rfl (Subs.cons rfl (Subs.cons ?_ (by repeat (first | exact Subs.nil | refine Subs.cons rfl ?_))))); simp only [List.take_zero, List.any_nil, Bool.or_false]; rfl) ?_
          · exact ⟨rfl, rfl, Nat.zero_le _⟩
          · rintro j H1 L1 ⟨rfl, rfl, hj⟩
            refine gc_seq ?_
            refine gc_seqr [(.mv, 0)] rfl ?_
            refine gr_rd rfl rfl rfl (rd_lss rfl rfl) ?_
            refine gr_nil ?_
            refine gk_then ?_
            refine gc_seq ?_
            refine gc_cond rfl (fun hc2 => ?_) (fun hc2 => ?_)
            · have hltj : j < (ov[i]).1.preds.length := by simpa using hc2
              obtain ⟨hAp, hcap, hsap⟩ := ids_at2 (i := (j : Int)) hp1 hp2 hltj rfl
              have hcap1 : Cells H ((b8, .cells (encOpV ov[i]).toArray 38 (0, 0)) :: (b5, .cells (encId (ns.getD k Nm.zero)).toArray 34 (0, 0)) :: (C ++ L)) bp lp := hcap.mono (Gh.le_refl _) (fun x hx => by cases hx)
              refine gc_skip ?_
              refine gk_then ?_
              refine gc_seq ?_
              refine gc_block ?_
              refine gc_seq ?_
              refine gc_seqr [(.mv, 0), (.mv, 1), (.nm, 2), (.nm, 3)] rfl ?_
              refine gr_rd rfl rfl rfl (rd_indexS Tryd.underlying29 Tryd.sizeOf34 rfl rfl hAp (by omega) (by omega)) ?_
              refine gr_rd rfl rfl rfl (rd_loadA Tryd.ta34 rfl hcap1 hsap (encId_length _)) ?_
              refine gr_nx rfl rfl rfl (nx_alloc Tryd.zeroValue34 rfl) ?_; rintro _ _ _ _ ⟨b10, rfl, rfl, rfl⟩; refine ⟨trivial, ?_⟩
              refine gr_nx0 rfl rfl (nx_store (vs := encId ((ov[i]).1.preds.getD j Nm.zero)) Tryd.sizeOf34 rfl rfl rfl (encId_length _) Upd.here (by simp) (encId_ones _)) ?_; rintro _ _ _ _ ⟨rfl, rfl, rfl⟩; refine ⟨trivial, ?_⟩
              rw [wr_all (by simp)]
              refine gr_nil ?_
              refine gk_then ?_
              refine gc_seqr [(.mv, 0), (.mv, 1), (.mv, 2), (.mv, 3), (.mv, 4), (.mv, 5), (.mv, 6)] rfl ?_
              refine gr_rd rfl rfl rfl (rd_move rfl) ?_
              refine gr_rd rfl rfl rfl (rd_move rfl) ?_
              refine gr_split rfl (fun hg1 => ?_) (fun hg1 => ?_)
              · skip
                refine gr_no rfl rfl rfl ?_
                refine gr_no rfl rfl rfl ?_
                refine gr_no rfl rfl rfl ?_
                (first | refine gr_rd rfl rfl rfl (rd_pick_t rfl rfl) ?_ | refine gr_rd rfl rfl rfl (rd_pick_f rfl rfl) ?_)
                refine gr_rd rfl rfl rfl (rd_assign rfl) ?_
                refine gr_nil ?_
                refine gk_inBlock ?_
                refine gk_then ?_
                refine gc_seqr [(.mv, 0), (.mv, 1)] rfl ?_
                (first | refine gr_rd rfl rfl rfl (rd_add rfl rfl (IntWalk.i64_in _ (by omega))) ?_ | refine gr_rd rfl rfl rfl (rd_add rfl rfl rfl) ?_)
                refine gr_rd rfl rfl rfl (rd_move rfl) ?_
                refine gr_nil ?_
                refine gk_drop (L' := (b8, .cells (encOpV ov[i]).toArray 38 (0, 0)) :: (b5, .cells (encId (ns.getD k Nm.zero)).toArray 34 (0, 0)) :: (C ++ L)) (by repeat (first | exact List.Sublist.refl _ | apply List.Sublist.cons_cons | apply List.Sublist.cons | apply List.Sublist.append (List.Sublist.refl _) | refine List.Sublist.trans ?_ (List.sublist_append_right _ _))) ?_
                refine gk_round (j + 1) (by omega) ⟨rfl, rfl, by omega⟩ ?_
                refine Subs.cons rfl (Subs.cons rfl (Subs.cons rfl (Subs.cons ?_ (by repeat (first | exact Subs.nil | refine Subs.cons rfl ?_)))))
                simp only [find, cond]
                rw [any_take _ hltj, ← Bool.or_assoc, hg1]
                first
                  | (rw [Bool.true_or] <;> rfl)
                  | (rw [Bool.false_or, ← nm_beq] <;> rfl)
              · skip
                refine gr_rd rfl rfl rfl (rd_loadA Tryd.ta34 rfl (by first | (apply Cells.own; (repeat (first | exact List.mem_cons_self | apply List.mem_cons_of_mem)); done) | assumption) (by first | exact Seg.all _ | exact Seg.head | assumption) (by first | exact encId_length _ | exact encOp_length _ _ | exact encDraft_length _ | rfl | simp)) ?_
                refine gr_rd rfl rfl rfl (rd_loadA Tryd.ta34 rfl (by first | (apply Cells.own; (repeat (first | exact List.mem_cons_self | apply List.mem_cons_of_mem)); done) | assumption) (by first | exact Seg.all _ | exact Seg.head | assumption) (by first | exact encId_length _ | exact encOp_length _ _ | exact encDraft_length _ | rfl | simp)) ?_
                refine gr_rd rfl rfl rfl (rd_arrEq Tryd.tb34 (by first | exact Nm.len _ | assumption | simp) (by first | exact Nm.len _ | assumption | simp) rfl rfl) ?_
                (first | refine gr_rd rfl rfl rfl (rd_pick_t rfl rfl) ?_ | refine gr_rd rfl rfl rfl (rd_pick_f rfl rfl) ?_)
                refine gr_rd rfl rfl rfl (rd_assign rfl) ?_
                refine gr_nil ?_
                refine gk_inBlock ?_
                refine gk_then ?_
                refine gc_seqr [(.mv, 0), (.mv, 1)] rfl ?_
                (first | refine gr_rd rfl rfl rfl (rd_add rfl rfl (IntWalk.i64_in _ (by omega))) ?_ | refine gr_rd rfl rfl rfl (rd_add rfl rfl rfl) ?_)
                refine gr_rd rfl rfl rfl (rd_move rfl) ?_
                refine gr_nil ?_
                refine gk_drop (L' := (b8, .cells (encOpV ov[i]).toArray 38 (0, 0)) :: (b5, .cells (encId (ns.getD k Nm.zero)).toArray 34 (0, 0)) :: (C ++ L)) (by repeat (first | exact List.Sublist.refl _ | apply List.Sublist.cons_cons | apply List.Sublist.cons | apply List.Sublist.append (List.Sublist.refl _) | refine List.Sublist.trans ?_ (List.sublist_append_right _ _))) ?_
                refine gk_round (j + 1) (by omega) ⟨rfl, rfl, by omega⟩ ?_
                refine Subs.cons rfl (Subs.cons rfl (Subs.cons rfl (Subs.cons ?_ (by repeat (first | exact Subs.nil | refine Subs.cons rfl ?_)))))
                simp only [find, cond]
                rw [any_take _ hltj, ← Bool.or_assoc, hg1]
                first
                  | (rw [Bool.true_or] <;> rfl)
                  | (rw [Bool.false_or, ← nm_beq] <;> rfl)
            · have hjl : j = (ov[i]).1.preds.length := by simp at hc2; omega
              refine gc_exit ?_
              refine gk_exit_then ?_
              refine gk_exit_then ?_
              refine gk_here ?_
              refine gk_inBlock ?_
              refine gk_then ?_
              refine gc_seqr [(.mv, 0), (.mv, 1)] rfl ?_
              (first | refine gr_rd rfl rfl rfl (rd_add rfl rfl (IntWalk.i64_in _ (by omega))) ?_ | refine gr_rd rfl rfl rfl (rd_add rfl rfl rfl) ?_)
              refine gr_rd rfl rfl rfl (rd_move rfl) ?_
              refine gr_nil ?_
              refine gk_drop (L' := (b5, .cells (encId (ns.getD k Nm.zero)).toArray 34 (0, 0)) :: (C ++ L)) (by repeat (first | exact List.Sublist.refl _ | apply List.Sublist.cons_cons | apply List.Sublist.cons | apply List.Sublist.append (List.Sublist.refl _) | refine List.Sublist.trans ?_ (List.sublist_append_right _ _))) ?_
              refine gk_round (i + 1) (by omega) ⟨rfl, rfl, by omega⟩ ?_
              refine Subs.cons rfl (Subs.cons rfl (Subs.cons rfl (Subs.cons ?_ (by repeat (first | exact Subs.nil | refine Subs.cons rfl ?_)))))
              simp only [find, cond]
              rw [anyB_take _ hoi, hjl, List.take_length] <;> rfl
        · have hil : i = (ov.map (·.1)).length := by have := of_decide_eq_false hc1; rw [List.length_map]; omega
          rw [hil, List.take_length]
          have hbe : behind s (ns.getD k Nm.zero) = anyB (ov.map (·.1)) (ns.getD k Nm.zero) := behind_any hV.opsE
          have hfl := List.length_filter_le (fun n => !behind s n) (ns.take k)
          rw [List.length_take] at hfl
          refine gc_exit ?_
          refine gk_exit_then ?_
          refine gk_exit_then ?_
          refine gk_here ?_
          refine gk_then ?_
          refine gc_seq ?_
          refine gc_seqr [(.mv, 0), (.mv, 1)] rfl ?_
          refine gr_rd rfl rfl rfl (rd_move rfl) ?_
          refine gr_rd rfl rfl rfl (rd_not rfl) ?_
          refine gr_nil ?_
          refine gk_then ?_
          refine gc_cond rfl (fun hc3 => ?_) (fun hc3 => ?_)
          · skip
            refine gc_seqr [(.mv, 0), (.mv, 1), (.nm, 2), (.nm, 3), (.mv, 4)] rfl ?_
            refine gr_rd rfl rfl rfl (rd_move rfl) ?_
            refine gr_rd rfl rfl rfl (rd_loadA Tryd.ta34 rfl (by first | (apply Cells.own; (repeat (first | exact List.mem_cons_self | apply List.mem_cons_of_mem)); done) | assumption) (by first | exact Seg.all _ | exact Seg.head | assumption) (by first | exact encId_length _ | exact encOp_length _ _ | exact encDraft_length _ | rfl | simp)) ?_
            refine gr_nx rfl rfl rfl (nx_sliceA1 Tryd.underlying29 Tryd.sizeOf34 Tryd.zeroValue34 rfl rfl rfl (by first | exact encId_length _ | exact encOp_length _ _ | exact encDraft_length _ | rfl | simp) rfl) ?_; rintro _ _ _ _ ⟨b48, rfl, rfl, rfl⟩; refine ⟨trivial, ?_⟩
            refine gr_nx rfl rfl rfl (nx_append (m := 1) Tryd.app29_29 rfl rfl hO (by repeat (first | exact Pick.here | exact Pick.one | apply Pick.there | apply Pick.app)) (src_slice (b := b48) (o := 0) (l := encId (ns.getD k Nm.zero)) (m := 1) (by simp) (encId_ones _) (fun h => by cases h) (fun _ _ => ⟨rfl, Cells.own List.mem_cons_self, Seg.all _⟩)) (by omega) (by omega)) ?_; rintro v49 H' L' hle ⟨C2, hO2, _, rfl, rfl⟩; refine ⟨trivial, ?_⟩
            refine gr_rd rfl rfl rfl (rd_assign rfl) ?_
            refine gr_nil ?_
            refine gk_inBlock ?_
            refine gk_then ?_
            refine gc_seqr [(.mv, 0), (.mv, 1)] rfl ?_
            (first | refine gr_rd rfl rfl rfl (rd_add rfl rfl (IntWalk.i64_in _ (by omega))) ?_ | refine gr_rd rfl rfl rfl (rd_add rfl rfl rfl) ?_)
            refine gr_rd rfl rfl rfl (rd_move rfl) ?_
            refine gr_nil ?_
            first
              | (refine gk_drop (L' := C2 ++ L) (by repeat (first | exact List.Sublist.refl _ | apply List.Sublist.cons_cons | apply List.Sublist.cons | apply List.Sublist.append (List.Sublist.refl _) | refine List.Sublist.trans ?_ (List.sublist_append_right _ _))) ?_
                 refine gk_round (k + 1, _, C2) ?_ ?_ (by repeat (first | exact Subs.nil | refine Subs.cons rfl ?_))
                 · show ns.length - (k + 1) < ns.length - k
                   omega
                 · refine ⟨rfl, rfl, by simp only; omega, ?_⟩
                   simp only
                   rw [filter_take _ hlt, if_pos (by rw [hbe]; exact hc3)]
                   simpa using hO2)
              | (refine gk_drop (L' := C ++ L) (by repeat (first | exact List.Sublist.refl _ | apply List.Sublist.cons_cons | apply List.Sublist.cons | apply List.Sublist.append (List.Sublist.refl _) | refine List.Sublist.trans ?_ (List.sublist_append_right _ _))) ?_
                 refine gk_round (k + 1, _, C) ?_ ?_ (by repeat (first | exact Subs.nil | refine Subs.cons rfl ?_))
                 · show ns.length - (k + 1) < ns.length - k
                   omega
                 · refine ⟨rfl, rfl, by simp only; omega, ?_⟩
                   simp only
                   rw [filter_take _ hlt, if_neg (by rw [hbe, hc3] <;> simp), List.append_nil]
                   exact hO)
          · skip
            refine gc_skip ?_
            refine gk_inBlock ?_
            refine gk_then ?_
            refine gc_seqr [(.mv, 0), (.mv, 1)] rfl ?_
            (first | refine gr_rd rfl rfl rfl (rd_add rfl rfl (IntWalk.i64_in _ (by omega))) ?_ | refine gr_rd rfl rfl rfl (rd_add rfl rfl rfl) ?_)
            refine gr_rd rfl rfl rfl (rd_move rfl) ?_
            refine gr_nil ?_
            first
              | (refine gk_drop (L' := C2 ++ L) (by repeat (first | exact List.Sublist.refl _ | apply List.Sublist.cons_cons | apply List.Sublist.cons | apply List.Sublist.append (List.Sublist.refl _) | refine List.Sublist.trans ?_ (List.sublist_append_right _ _))) ?_
                 refine gk_round (k + 1, _, C2) ?_ ?_ (by repeat (first | exact Subs.nil | refine Subs.cons rfl ?_))
                 · show ns.length - (k + 1) < ns.length - k
                   omega
                 · refine ⟨rfl, rfl, by simp only; omega, ?_⟩
                   simp only
                   rw [filter_take _ hlt, if_pos (by rw [hbe]; exact hc3)]
                   simpa using hO2)
              | (refine gk_drop (L' := C ++ L) (by repeat (first | exact List.Sublist.refl _ | apply List.Sublist.cons_cons | apply List.Sublist.cons | apply List.Sublist.append (List.Sublist.refl _) | refine List.Sublist.trans ?_ (List.sublist_append_right _ _))) ?_
                 refine gk_round (k + 1, _, C) ?_ ?_ (by repeat (first | exact Subs.nil | refine Subs.cons rfl ?_))
                 · show ns.length - (k + 1) < ns.length - k
                   omega
                 · refine ⟨rfl, rfl, by simp only; omega, ?_⟩
                   simp only
                   rw [filter_take _ hlt, if_neg (by rw [hbe, hc3] <;> simp), List.append_nil]
                   exact hO)
    · have hge : k = ns.length := by simp at hc0; omega
      subst hge
      have hfl := List.length_filter_le (fun n => !behind s n) ns
      rw [List.take_length] at hO
      have hI : Ids H (C ++ L) vo (ns.filter fun n => !behind s n) := Ow.slT encId_length hO rfl (by omega) (fun x hx => List.mem_append_left _ hx)
      refine gc_exit ?_
      refine gk_exit_then ?_
      refine gk_exit_then ?_
      refine gk_here ?_
      refine gk_then ?_
      refine gc_seq ?_
      refine gc_seqr [(.mv, 0), (.nm, 1), (.mv, 2)] rfl ?_
      refine gr_rd rfl rfl rfl (rd_move rfl) ?_
      refine gr_nx rfl rfl rfl (nx_call Tryd.en41 rfl (rising_cc _ _ _ _ hI (by omega))) ?_; rintro v52 H' L' hle ⟨C1, hO1, rfl, rfl⟩; refine ⟨trivial, ?_⟩
      refine gr_rd rfl rfl rfl (rd_assign rfl) ?_
      refine gr_nil ?_
      refine gk_then ?_
      refine gc_ret ?_
      refine gk_result (L' := C1 ++ L) (.inl rfl) _ (res1 rfl rfl) (by repeat (first | exact List.Sublist.refl _ | apply List.Sublist.cons_cons | apply List.Sublist.cons | apply List.Sublist.append (List.Sublist.refl _) | refine List.Sublist.trans ?_ (List.sublist_append_right _ _))) (by first | exact Gh.le_refl _ | assumption | exact Gh.le_trans (by assumption) (by assumption)) ?_
      exact ⟨C1, by rw [heads, hns]; exact hO1, rfl, rfl⟩
end Go.Proofs.YtfhldfjknagidaaDoor
