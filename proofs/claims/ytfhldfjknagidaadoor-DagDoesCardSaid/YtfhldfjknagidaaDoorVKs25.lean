/-
  Walks: whatever comes, each answer is the document's.
-/
import Derived.Test.YtfhldfjknagidaaDoorVKs24
set_option linter.unusedSimpArgs false
set_option linter.unusedVariables false
set_option linter.unnecessarySimpa false
set_option linter.all false
namespace Go.Proofs.YtfhldfjknagidaaDoor
open Go.VK Go.Tr
set_option maxRecDepth 20000
attribute [local irreducible] Go.Tr.sha
/-- Two sets, the program's and the reference's, behind k operations. -/
structure TW where
  k : Nat
  s : DSet
  ob : Obj
  ow : Obj
  ot : Obj
  v0 : Value
  v1 : Value
  v2 : Value
  v3 : Value
  ov : List (POp × Value)
  wv : List (POp × Value)
  C0 : Chunks
  C1 : Chunks
  C2 : Chunks
  C3 : Chunks
theorem erase_len {α : Type} {l : List α} {i : Nat} (h : i < l.length) : (l.eraseIdx i).length + 1 = l.length := by rw [List.length_eraseIdx, if_pos h]; omega
theorem take_len' (s : DSet) (o : POp) : (take s o).2.1.length ≤ s.wait.length + 1 := by
  unfold take
  split
  · exact Nat.zero_le _
  · split
    · exact Nat.zero_le _
    · split
      · exact Nat.zero_le _
      · split
        · exact Nat.zero_le _
        · have key : ∀ (k : Nat) (s : DSet) (out : List Nm), (Tr.settle k s out).2.length ≤ out.length + k := by
            intro k
            induction k with
            | zero => intro s out; exact Nat.le_refl _
            | succ k ih =>
              intro s out
              unfold Tr.settle
              split
              · exact Nat.le_add_right _ _
              · split
                · exact Nat.le_add_right _ _
                · simp only
                  split
                  · exact Nat.le_trans (ih _ _) (by simp; omega)
                  · exact Nat.le_trans (ih _ _) (by omega)
          have hwl : ∀ (k : Nat) (s : DSet) (out : List Nm), (Tr.settle k s out).2.length ≤ out.length + s.wait.length := by
            intro k
            induction k with
            | zero => intro s out; exact Nat.le_add_right _ _
            | succ k ih =>
              intro s out
              unfold Tr.settle
              split
              · exact Nat.le_add_right _ _
              · split
                · exact Nat.le_add_right _ _
                · rename_i hi
                  have he := erase_len (List.getElem?_eq_some_iff.1 hi).1
                  simp only
                  split
                  · refine Nat.le_trans (ih _ _) ?_
                    simp only [List.length_append, List.length_cons, List.length_nil]
                    omega
                  · refine Nat.le_trans (ih _ _) ?_
                    simp only
                    omega
          refine Nat.le_trans (hwl _ _ _) ?_
          simp only [List.length_cons, List.length_nil]
          omega
theorem next_preds (s : DSet) (author : Int) (d : Draft) : (next s author d).1.preds.length ≤ s.ops.length := by
  unfold next
  split
  · exact Nat.zero_le _
  · split
    · exact Nat.zero_le _
    · exact heads_le s
theorem if_has (b : Bool) : (((if b = true then (0 : Int) else 5)) == 0) = b := by cases b <;> rfl

set_option maxHeartbeats 4000000 in
theorem dagDoes_cc (H : Gh) (hG : Glob H) (L : Chunks) (v vo : Value) (xs : List (Tr.Make × Value)) (ns : List Int) (nm : Nm) (author : Int) (d : Draft) (hM : SlT encMakeV 78 H [] v xs) (hMp : ∀ p ∈ xs, Ids H [] p.2 p.1.op.preds) (hMr : ∀ p ∈ xs, RngM p.1) (hI : Ints H [] vo ns) :
    CC Tryd.prog 6 #[v, vo, ag (encId nm), i64 author, ag (encDraft d)] H L (fun u H' L' => u = .bool true ∧ L = L') := by
  have hLE := Gh.le_refl H
  obtain ⟨Ai, ci, rfl⟩ : ∃ a c, vo = .slice a ns.length c := by obtain ⟨a, _, _, c, _, h, _⟩ := hI; exact ⟨a, c, h⟩
  refine cc_of Tryd.func6 rfl (Nat.le_of_ble_eq_true rfl) ?_
  simp only [Tryd.ntmps6]
  refine gc_seq ?_
  refine gc_seqr [(.nm, 0), (.nm, 1), (.mv, 2)] rfl ?_
  refine gr_nx rfl rfl rfl (nx_box (l := encId nm) rfl rfl) ?_; rintro _ _ _ _ ⟨b7, rfl, rfl, rfl⟩; refine ⟨trivial, ?_⟩
  refine gr_nx rfl rfl rfl (nx_box (l := encDraft d) rfl rfl) ?_; rintro _ _ _ _ ⟨b9, rfl, rfl, rfl⟩; refine ⟨trivial, ?_⟩
  refine gr_rd rfl rfl rfl (rd_assign rfl) ?_
  refine gr_nil ?_
  refine gk_then ?_
  refine gc_seq ?_
  refine gc_seq ?_
  refine gc_seqr [(.nm, 0), (.mv, 1)] rfl ?_
  refine gr_nx rfl rfl rfl (nx_call Tryd.en10 rfl (alive_cc _ hG _)) ?_; rintro v34 H' L' hle ⟨rfl, rfl⟩; refine ⟨trivial, ?_⟩
  have hLE := Gh.le_trans hLE hle
  replace hG := hG.mono hle
  replace hM := hM.up hle
  replace hI := hI.up hle
  replace hMp : ∀ p ∈ xs, Ids _ [] p.2 p.1.op.preds := fun p hp => (hMp p hp).up hle
  refine gr_rd rfl rfl rfl (rd_not rfl) ?_
  refine gr_nil ?_
  refine gk_then ?_
  refine gc_no rfl ?_
  refine gc_skip ?_
  refine gk_then ?_
  refine gc_seq ?_
  refine gc_seqr [(.mv, 0), (.nm, 1), (.mv, 2)] rfl ?_
  refine gr_rd rfl rfl rfl (rd_move rfl) ?_
  refine gr_nx rfl rfl rfl (nx_call Tryd.en11 rfl (made_cc _ _ _ xs hM hMp hMr)) ?_; rintro v37 H' L' hle ⟨ov, Cm, hOm, hmade, hov, hol, rfl⟩; refine ⟨trivial, ?_⟩
  obtain ⟨Ao, co, rfl, hco⟩ := hOm.slice
  have hLE := Gh.le_trans hLE hle
  replace hG := hG.mono hle
  replace hI := hI.up hle
  refine gr_sealOw encOpV_length hOm rfl (by omega) (fun HH hle hsm => ?_)
  have hLE := Gh.le_trans hLE hle
  replace hG := hG.mono hle
  replace hI := hI.up hle
  replace hov : ∀ p ∈ ov, Ids HH [] p.2 p.1.preds ∧ FitO p.1 := fun p hp => ⟨(hov p hp).1.up hle, (hov p hp).2⟩
  refine gr_rd rfl rfl rfl (rd_assign rfl) ?_
  refine gr_nil ?_
  refine gk_then ?_
  refine gc_seq ?_
  refine gc_seq ?_
  refine gc_seqr [(.mv, 0), (.mv, 1), (.mv, 2), (.mv, 3), (.mv, 4), (.mv, 5), (.mv, 6), (.mv, 7), (.mv, 8), (.mv, 9), (.mv, 10), (.mv, 11), (.mv, 12), (.mv, 13), (.mv, 14), (.mv, 15), (.mv, 16), (.mv, 17), (.mv, 18), (.mv, 19)] rfl ?_
  refine gr_rd rfl rfl rfl (rd_move rfl) ?_
  refine gr_rd rfl rfl rfl (rd_lenS Tryd.underlying23 rfl) ?_
  refine gr_rd rfl rfl rfl (rd_gtr rfl rfl) ?_
  refine gr_rd rfl rfl rfl (rd_move rfl) ?_
  refine gr_split rfl (fun hg3 => ?_) (fun hg3 => ?_)
  · skip
    refine gr_no rfl rfl rfl ?_
    refine gr_no rfl rfl rfl ?_
    refine gr_no rfl rfl rfl ?_
    (first | refine gr_rd rfl rfl rfl (rd_pick_t rfl rfl) ?_ | refine gr_rd rfl rfl rfl (rd_pick_f rfl rfl) ?_)
    refine gr_rd rfl rfl rfl (rd_move rfl) ?_
    refine gr_no rfl rfl rfl ?_
    refine gr_no rfl rfl rfl ?_
    refine gr_no rfl rfl rfl ?_
    refine gr_no rfl rfl rfl ?_
    (first | refine gr_rd rfl rfl rfl (rd_pick_t rfl rfl) ?_ | refine gr_rd rfl rfl rfl (rd_pick_f rfl rfl) ?_)
    refine gr_rd rfl rfl rfl (rd_move rfl) ?_
    refine gr_no rfl rfl rfl ?_
    refine gr_no rfl rfl rfl ?_
    refine gr_no rfl rfl rfl ?_
    refine gr_no rfl rfl rfl ?_
    (first | refine gr_rd rfl rfl rfl (rd_pick_t rfl rfl) ?_ | refine gr_rd rfl rfl rfl (rd_pick_f rfl rfl) ?_)
    refine gr_nil ?_
    refine gk_then ?_
    refine gc_yes rfl ?_
    refine gc_seq ?_
    refine gc_seqr [(.mv, 0)] rfl ?_
    refine gr_rd rfl rfl rfl (rd_assign rfl) ?_
    refine gr_nil ?_
    refine gk_then ?_
    refine gc_ret ?_
    refine gk_ret_then ?_
    refine gk_drop (L' := L) (by repeat (first | exact List.Sublist.refl _ | exact List.nil_sublist _ | apply List.Sublist.cons_cons | apply List.Sublist.cons | refine List.Sublist.trans ?_ (List.sublist_append_right _ _))) ?_
    refine gk_result (L' := L) (.inl rfl) _ (res1 rfl rfl) (List.Sublist.refl _) (by first | exact Gh.le_refl _ | assumption | exact Gh.le_trans (by assumption) (by assumption)) ?_
    exact ⟨rfl, rfl⟩
  · skip
    refine gr_rd rfl rfl rfl (rd_move rfl) ?_
    refine gr_rd rfl rfl rfl (rd_lenS Tryd.underlying25 rfl) ?_
    refine gr_rd rfl rfl rfl (rd_eql rfl rfl) ?_
    (first | refine gr_rd rfl rfl rfl (rd_pick_t rfl rfl) ?_ | refine gr_rd rfl rfl rfl (rd_pick_f rfl rfl) ?_)
    refine gr_rd rfl rfl rfl (rd_move rfl) ?_
    refine gr_split rfl (fun hg8 => ?_) (fun hg8 => ?_)
    · skip
      refine gr_no rfl rfl rfl ?_
      refine gr_no rfl rfl rfl ?_
      refine gr_no rfl rfl rfl ?_
      refine gr_no rfl rfl rfl ?_
      (first | refine gr_rd rfl rfl rfl (rd_pick_t rfl rfl) ?_ | refine gr_rd rfl rfl rfl (rd_pick_f rfl rfl) ?_)
      refine gr_rd rfl rfl rfl (rd_move rfl) ?_
      refine gr_no rfl rfl rfl ?_
      refine gr_no rfl rfl rfl ?_
      refine gr_no rfl rfl rfl ?_
      refine gr_no rfl rfl rfl ?_
      (first | refine gr_rd rfl rfl rfl (rd_pick_t rfl rfl) ?_ | refine gr_rd rfl rfl rfl (rd_pick_f rfl rfl) ?_)
      refine gr_nil ?_
      refine gk_then ?_
      refine gc_yes rfl ?_
      refine gc_seq ?_
      refine gc_seqr [(.mv, 0)] rfl ?_
      refine gr_rd rfl rfl rfl (rd_assign rfl) ?_
      refine gr_nil ?_
      refine gk_then ?_
      refine gc_ret ?_
      refine gk_ret_then ?_
      refine gk_drop (L' := L) (by repeat (first | exact List.Sublist.refl _ | exact List.nil_sublist _ | apply List.Sublist.cons_cons | apply List.Sublist.cons | refine List.Sublist.trans ?_ (List.sublist_append_right _ _))) ?_
      refine gk_result (L' := L) (.inl rfl) _ (res1 rfl rfl) (List.Sublist.refl _) (by first | exact Gh.le_refl _ | assumption | exact Gh.le_trans (by assumption) (by assumption)) ?_
      exact ⟨rfl, rfl⟩
    · skip
      refine gr_rd rfl rfl rfl (rd_fieldAddr Tryd.fa36_1 rfl) ?_
      refine gr_rd rfl rfl rfl (rd_load1 Tryd.to9 rfl (Cells.own (l := encDraft d) (T := 36) (z := (0, 0)) (by simp [baseL])) (encDraft_1 _)) ?_
      refine gr_rd rfl rfl rfl (rd_lenL Tryd.underlying9 rfl) ?_
      refine gr_rd rfl rfl rfl (rd_gtr rfl rfl) ?_
      (first | refine gr_rd rfl rfl rfl (rd_pick_t rfl rfl) ?_ | refine gr_rd rfl rfl rfl (rd_pick_f rfl rfl) ?_)
      refine gr_rd rfl rfl rfl (rd_move rfl) ?_
      refine gr_split rfl (fun hg14 => ?_) (fun hg14 => ?_)
      · skip
        refine gr_no rfl rfl rfl ?_
        refine gr_no rfl rfl rfl ?_
        refine gr_no rfl rfl rfl ?_
        refine gr_no rfl rfl rfl ?_
        (first | refine gr_rd rfl rfl rfl (rd_pick_t rfl rfl) ?_ | refine gr_rd rfl rfl rfl (rd_pick_f rfl rfl) ?_)
        refine gr_nil ?_
        refine gk_then ?_
        refine gc_yes rfl ?_
        refine gc_seq ?_
        refine gc_seqr [(.mv, 0)] rfl ?_
        refine gr_rd rfl rfl rfl (rd_assign rfl) ?_
        refine gr_nil ?_
        refine gk_then ?_
        refine gc_ret ?_
        refine gk_ret_then ?_
        refine gk_drop (L' := L) (by repeat (first | exact List.Sublist.refl _ | exact List.nil_sublist _ | apply List.Sublist.cons_cons | apply List.Sublist.cons | refine List.Sublist.trans ?_ (List.sublist_append_right _ _))) ?_
        refine gk_result (L' := L) (.inl rfl) _ (res1 rfl rfl) (List.Sublist.refl _) (by first | exact Gh.le_refl _ | assumption | exact Gh.le_trans (by assumption) (by assumption)) ?_
        exact ⟨rfl, rfl⟩
      · skip
        refine gr_rd rfl rfl rfl (rd_fieldAddr Tryd.fa36_2 rfl) ?_
        refine gr_rd rfl rfl rfl (rd_load1 Tryd.to9 rfl (Cells.own (l := encDraft d) (T := 36) (z := (0, 0)) (by simp [baseL])) (encDraft_2 _)) ?_
        refine gr_rd rfl rfl rfl (rd_lenL Tryd.underlying9 rfl) ?_
        refine gr_rd rfl rfl rfl (rd_gtr rfl rfl) ?_
        (first | refine gr_rd rfl rfl rfl (rd_pick_t rfl rfl) ?_ | refine gr_rd rfl rfl rfl (rd_pick_f rfl rfl) ?_)
        refine gr_nil ?_
        refine gk_then ?_
        refine gc_cond rfl (fun hcR4 => ?_) (fun hcR4 => ?_)
        · skip
          refine gc_seq ?_
          refine gc_seqr [(.mv, 0)] rfl ?_
          refine gr_rd rfl rfl rfl (rd_assign rfl) ?_
          refine gr_nil ?_
          refine gk_then ?_
          refine gc_ret ?_
          refine gk_ret_then ?_
          refine gk_drop (L' := L) (by repeat (first | exact List.Sublist.refl _ | exact List.nil_sublist _ | apply List.Sublist.cons_cons | apply List.Sublist.cons | refine List.Sublist.trans ?_ (List.sublist_append_right _ _))) ?_
          refine gk_result (L' := L) (.inl rfl) _ (res1 rfl rfl) (List.Sublist.refl _) (by first | exact Gh.le_refl _ | assumption | exact Gh.le_trans (by assumption) (by assumption)) ?_
          exact ⟨rfl, rfl⟩
        · have hns : ¬ (60 : Int) < ns.length := by simpa using hg3
          have hol0 : ov.length ≠ 0 := by have := hg8; simp at this; simpa using this
          have hpos : 0 < ov.length := by omega
          refine gc_skip ?_
          refine gk_then ?_
          refine gc_seq ?_
          refine gc_seqr [(.nm, 0), (.mv, 1), (.nm, 2), (.mv, 3), (.mv, 4)] rfl ?_
          refine gr_nx rfl rfl rfl (nx_call Tryd.en12 rfl (new_cc _ _)) ?_; rintro v58 H' L' hle ⟨b, bo, bw, bt, ob0, ow0, ot0, rfl, hR0, rfl, rfl⟩; refine ⟨trivial, ?_⟩
          refine gr_rd rfl rfl rfl (rd_build Tryd.bt48 (ps := []) (l := [nilS, nilS, nilS, nilS]) rfl rfl) ?_
          refine gr_nx rfl rfl rfl (nx_box (l := [nilS, nilS, nilS, nilS]) rfl rfl) ?_; rintro _ _ _ _ ⟨br, rfl, rfl, rfl⟩; refine ⟨trivial, ?_⟩
          refine gr_perm (L' := ((b, .cells [.map (some bo), .map (some bw), .map (some bt)].toArray 83 (0, 0)) :: (bo, ob0) :: (bw, ow0) :: (bt, ot0) :: ((br, .cells [nilS, nilS, nilS, nilS].toArray 48 (0, 0)) :: ([] ++ ([] ++ ([] ++ ([] ++ ((b9, .cells (encDraft d).toArray 36 (0, 0)) :: (b7, .cells (encId nm).toArray 33 (0, 0)) :: L)))))))) (by haveI : DecidableEq (Nat × Obj) := fun _ _ => Classical.propDecidable _; rw [List.perm_iff_count]; intro a; simp only [List.count_append, List.count_cons, List.count_nil]; ac_rfl) ?_
          refine gr_rd rfl rfl rfl (rd_assign rfl) ?_
          refine gr_rd rfl rfl rfl (rd_assign rfl) ?_
          refine gr_nil ?_
          refine gk_then ?_
          refine gc_seq ?_
          refine gc_seqr [(.mv, 0)] rfl ?_
          refine gr_rd rfl rfl rfl (rd_assign rfl) ?_
          refine gr_nil ?_
          refine gk_then ?_
          refine gc_seq ?_
          refine gc_seq ?_
          refine gc_seqr [(.mv, 0), (.mv, 1), (.mv, 2)] rfl ?_
          refine gr_rd rfl rfl rfl (rd_move rfl) ?_
          refine gr_rd rfl rfl rfl (rd_lenS Tryd.underlying23 rfl) ?_
          refine gr_rd rfl rfl rfl (rd_move rfl) ?_
          refine gr_nil ?_
          refine gk_then ?_
          refine gc_block ?_
          refine gc_loop (fun t : TW => [(7, pt b7 0), (3, i64 author), (9, pt b9 0), (11, .slice Ao ov.length co), (12, pt b 0), (13, pt br 0), (14, .pointer none), (61, .slice Ai ns.length ci), (62, i64 ns.length), (63, i64 t.k)]) (fun t H1 L1 => HH ≤ H1 ∧ ((b, .cells [.map (some bo), .map (some bw), .map (some bt)].toArray 83 (0, 0)) :: (bo, t.ob) :: (bw, t.ow) :: (bt, t.ot) :: ((br, .cells [t.v0, t.v1, t.v2, t.v3].toArray 48 (0, 0)) :: (t.C0 ++ (t.C1 ++ (t.C2 ++ (t.C3 ++ ((b9, .cells (encDraft d).toArray 36 (0, 0)) :: (b7, .cells (encId nm).toArray 33 (0, 0)) :: L))))))) = L1 ∧ DRep H1 t.s t.ob t.ow t.ot ∧ RSet H1 t.s t.v0 t.v1 t.v2 t.v3 t.ov t.wv t.C0 t.C1 t.C2 t.C3 ∧ Closed FitO t.s ∧ t.k ≤ ns.length ∧ t.s.ops.length + t.s.wait.length ≤ t.k) (fun t => ns.length - t.k) (⟨0, DSet.empty, ob0, ow0, ot0, nilS, nilS, nilS, nilS, [], [], [], [], [], []⟩) ?_ (by repeat (first | exact Subs.nil | refine Subs.cons rfl ?_)) ?_
          · exact ⟨Gh.le_refl _, rfl, hR0, ⟨Ow.nil, rfl, Ow.nil, rfl, Ow.nil, Ow.nil, (fun p hp => by cases hp), (fun p hp => by cases hp)⟩, Closed.empty _, Nat.zero_le _, Nat.le_refl _⟩
          · rintro ⟨k, s, ob, ow, ot, v0, v1, v2, v3, sv, sw, C0, C1, C2, C3⟩ H1 L1 ⟨hle, rfl, hR, hS, hC, hk, hsz⟩
            simp only at hR hS hC hk hsz
            have hLE := Gh.le_trans hLE hle
            replace hG := hG.mono hle
            replace hI := hI.up hle
            replace hsm := hsm.up hle
            replace hov : ∀ p ∈ ov, Ids H1 [] p.2 p.1.preds ∧ FitO p.1 := fun p hp => ⟨(hov p hp).1.up hle, (hov p hp).2⟩
            show GC _ _ _ _ [(7, pt b7 0), (3, i64 author), (9, pt b9 0), (11, .slice Ao ov.length co), (12, pt b 0), (13, pt br 0), (14, .pointer none), (61, .slice Ai ns.length ci), (62, i64 ns.length), (63, i64 k)] H1 ((b, .cells [.map (some bo), .map (some bw), .map (some bt)].toArray 83 (0, 0)) :: (bo, ob) :: (bw, ow) :: (bt, ot) :: ((br, .cells [v0, v1, v2, v3].toArray 48 (0, 0)) :: (C0 ++ (C1 ++ (C2 ++ (C3 ++ ((b9, .cells (encDraft d).toArray 36 (0, 0)) :: (b7, .cells (encId nm).toArray 33 (0, 0)) :: L)))))))
            refine gc_seq ?_
            refine gc_seqr [(.mv, 0)] rfl ?_
            refine gr_rd rfl rfl rfl (rd_lss rfl rfl) ?_
            refine gr_nil ?_
            refine gk_then ?_
            refine gc_seq ?_
            refine gc_cond rfl (fun hcR9 => ?_) (fun hcR9 => ?_)
            · have hlt : k < ns.length := by simpa using hcR9
              obtain ⟨_, bi, oi, _, li, hei, hci, hni, hi0, hi1, hi2⟩ := hI
              cases hei
              obtain ⟨hAi, hca, hsa⟩ := slt_at (i := (k : Int)) hi1 hi2 (List.getElem?_eq_getElem hlt) rfl
              have hp1 := pick_lt ns[k] hpos
              obtain ⟨⟨q, pq⟩, hpq⟩ : ∃ p, ov[pickAt ns[k] ov.length]? = some p := ⟨_, List.getElem?_eq_getElem hp1⟩
              obtain ⟨_, bm, om, _, lm, hem, hcm, hnm, hm0, hm1, hm2⟩ := hsm
              cases hem
              obtain ⟨hAo, hcA, hsA⟩ := slt_at (i := ((pickAt ns[k] ov.length : Nat) : Int)) hm1 hm2 hpq rfl
              obtain ⟨hqi, hfit⟩ := hov _ (List.mem_of_getElem? hpq)
              simp only at hqi hfit
              have htl := take_len s q
              have htl2 := take_len' s q
              have hkk : k ≤ 60 := by omega
              refine gc_skip ?_
              refine gk_then ?_
              refine gc_seq ?_
              refine gc_block ?_
              refine gc_seq ?_
              refine gc_seqr [(.mv, 0), (.mv, 1), (.mv, 2)] rfl ?_
              refine gr_rd rfl rfl rfl (rd_indexS Tryd.underlying23 Tryd.sizeOf3 rfl rfl hAi (by omega) (by omega)) ?_
              refine gr_rd rfl rfl rfl (rd_load1 Tryd.to3 rfl (hca.mono (Gh.le_refl _) (fun x hx => by cases hx)) (by have := hsa 0 _ rfl; simpa using this)) ?_
              refine gr_rd rfl rfl rfl (rd_assign rfl) ?_
              refine gr_nil ?_
              refine gk_then ?_
              refine gc_seq ?_
              refine gc_seqr [(.mv, 0), (.mv, 1), (.mv, 2), (.mv, 3), (.mv, 4), (.mv, 5), (.mv, 6), (.mv, 7), (.mv, 8), (.mv, 9), (.nm, 10), (.nm, 11)] rfl ?_
              refine gr_rd rfl rfl rfl (rd_move rfl) ?_
              refine gr_rd rfl rfl rfl (rd_move rfl) ?_
              (first | refine gr_rd rfl rfl rfl (rd_convInt Tryd.underlying3 Tryd.underlying39 rfl (IntWalk.u64_in _ (by omega))) ?_ | refine gr_rd rfl rfl rfl (rd_convInt Tryd.underlying3 Tryd.underlying39 rfl rfl) ?_)
              refine gr_rd rfl rfl rfl (rd_move rfl) ?_
              refine gr_rd rfl rfl rfl (rd_lenS Tryd.underlying25 rfl) ?_
              (first | refine gr_rd rfl rfl rfl (rd_convInt Tryd.underlying3 Tryd.underlying39 rfl (IntWalk.u64_in _ (by omega))) ?_ | refine gr_rd rfl rfl rfl (rd_convInt Tryd.underlying3 Tryd.underlying39 rfl rfl) ?_)
              refine gr_rd rfl rfl rfl (rd_rem rfl rfl (by omega) rfl) ?_
              refine gr_rd rfl rfl rfl (rd_convInt Tryd.underlying39 Tryd.underlying3 rfl (pick_wrap _ hpos (by omega))) ?_
              refine gr_rd rfl rfl rfl (rd_indexS Tryd.underlying25 Tryd.sizeOf38 rfl rfl hAo (by omega) (by omega)) ?_
              refine gr_rd rfl rfl rfl (rd_loadA Tryd.ta38 rfl (hcA.mono (Gh.le_refl _) (fun x hx => by cases hx)) hsA (encOpV_length _)) ?_
              refine gr_nx rfl rfl rfl (nx_alloc Tryd.zeroValue38 rfl) ?_; rintro _ _ _ _ ⟨b17, rfl, rfl, rfl⟩; refine ⟨trivial, ?_⟩
              refine gr_nx0 rfl rfl (nx_store (vs := encOpV (q, pq)) Tryd.sizeOf38 rfl rfl rfl (encOp_length _ _) (by repeat (first | exact Upd.here | exact Upd.appl (by assumption) | apply Upd.there | apply Upd.app)) (by simp) (encOp_ones _ hqi.one)) ?_; rintro _ _ _ _ ⟨rfl, rfl, rfl⟩; refine ⟨trivial, ?_⟩
              rw [wr_all (by simp)]
              refine gr_nil ?_
              refine gk_then ?_
              refine gc_seq ?_
              refine gc_seqr [(.mv, 0), (.mv, 1), (.nm, 2), (.mv, 3), (.mv, 4), (.mv, 5), (.mv, 6), (.mv, 7)] rfl ?_
              refine gr_rd rfl rfl rfl (rd_move rfl) ?_
              refine gr_rd rfl rfl rfl (rd_loadA Tryd.ta38 rfl (Cells.own (l := encOpV (q, pq)) (T := 38) (z := (0, 0)) (by simp [baseL])) (Seg.all _) (encOp_length _ _)) ?_
              refine gr_perm (L' := ((b, .cells [.map (some bo), .map (some bw), .map (some bt)].toArray 83 (0, 0)) :: (bo, ob) :: (bw, ow) :: (bt, ot) :: ((br, .cells [v0, v1, v2, v3].toArray 48 (0, 0)) :: (C0 ++ (C1 ++ (C2 ++ (C3 ++ ((b17, .cells (encOpV (q, pq)).toArray 38 (0, 0)) :: ((b9, .cells (encDraft d).toArray 36 (0, 0)) :: (b7, .cells (encId nm).toArray 33 (0, 0)) :: L))))))))) (by haveI : DecidableEq (Nat × Obj) := fun _ _ => Classical.propDecidable _; rw [List.perm_iff_count]; intro a; simp only [List.count_append, List.count_cons, List.count_nil]; ac_rfl) ?_
              refine gr_nx rfl rfl rfl (nx_call Tryd.en13 rfl (take_cc _ hG _ hR (by omega) q pq (hqi.any) hfit.small)) ?_; rintro v80 H' L' hle ⟨ob2, ow2, ot2, Cl, vl, hR2, hOl, rfl, rfl⟩; refine ⟨trivial, ?_⟩
              have hLE := Gh.le_trans hLE hle
              replace hG := hG.mono hle
              replace hqi := hqi.up hle
              replace hS := hS.up hle
              obtain ⟨al, cl, rfl, hcl⟩ := hOl.slice
              refine gr_rd rfl rfl rfl (rd_move rfl) ?_
              refine gr_rd rfl rfl rfl (rd_extract rfl rfl) ?_
              refine gr_rd rfl rfl rfl (rd_extract rfl rfl) ?_
              refine gr_rd rfl rfl rfl (rd_assign rfl) ?_
              refine gr_rd rfl rfl rfl (rd_assign rfl) ?_
              refine gr_nil ?_
              refine gk_then ?_
              refine gc_seq ?_
              refine gc_seqr [(.mv, 0), (.mv, 1), (.nm, 2), (.mv, 3), (.mv, 4), (.mv, 5), (.mv, 6), (.mv, 7)] rfl ?_
              refine gr_rd rfl rfl rfl (rd_move rfl) ?_
              refine gr_rd rfl rfl rfl (rd_loadA Tryd.ta38 rfl (Cells.own (l := encOpV (q, pq)) (T := 38) (z := (0, 0)) (by simp [baseL])) (Seg.all _) (encOp_length _ _)) ?_
              refine gr_perm (L' := ((br, .cells [v0, v1, v2, v3].toArray 48 (0, 0)) :: (C0 ++ (C1 ++ (C2 ++ (C3 ++ (Cl ++ ((b, .cells [.map (some bo), .map (some bw), .map (some bt)].toArray 83 (0, 0)) :: (bo, ob2) :: (bw, ow2) :: (bt, ot2) :: ((b17, .cells (encOpV (q, pq)).toArray 38 (0, 0)) :: ((b9, .cells (encDraft d).toArray 36 (0, 0)) :: (b7, .cells (encId nm).toArray 33 (0, 0)) :: L)))))))))) (by haveI : DecidableEq (Nat × Obj) := fun _ _ => Classical.propDecidable _; rw [List.perm_iff_count]; intro a; simp only [List.count_append, List.count_cons, List.count_nil]; ac_rfl) ?_
              refine gr_nx rfl rfl rfl (nx_call Tryd.en19 rfl (rtake_cc _ _ hS (by omega) q pq hqi hfit.small)) ?_; rintro v86 H' L' hle ⟨w0, w1, w2, w3, sv', sw', E0, E1, E2, E3, Ck, vk, hS2, hOk, rfl, rfl, rfl⟩; refine ⟨trivial, ?_⟩
              obtain ⟨ak, ck, rfl, hck⟩ := hOk.slice
              refine gr_rd rfl rfl rfl (rd_move rfl) ?_
              refine gr_rd rfl rfl rfl (rd_extract rfl rfl) ?_
              refine gr_rd rfl rfl rfl (rd_extract rfl rfl) ?_
              refine gr_rd rfl rfl rfl (rd_assign rfl) ?_
              refine gr_rd rfl rfl rfl (rd_assign rfl) ?_
              refine gr_nil ?_
              refine gk_then ?_
              refine gc_seq ?_
              refine gc_seqr [(.mv, 0), (.mv, 1), (.nm, 2), (.mv, 3), (.mv, 4), (.mv, 5), (.mv, 6), (.mv, 7)] rfl ?_
              refine gr_rd rfl rfl rfl (rd_move rfl) ?_
              refine gr_rd rfl rfl rfl (rd_loadA Tryd.ta38 rfl (Cells.own (l := encOpV (q, pq)) (T := 38) (z := (0, 0)) (by simp [baseL])) (Seg.all _) (encOp_length _ _)) ?_
              refine gr_nx rfl rfl rfl (nx_call Tryd.en13 rfl (take_nil _ _ q pq hqi.one)) ?_; rintro v92 H' L' hle ⟨rfl, rfl, rfl⟩; refine ⟨trivial, ?_⟩
              refine gr_rd rfl rfl rfl (rd_move rfl) ?_
              refine gr_rd rfl rfl rfl (rd_extract rfl rfl) ?_
              refine gr_rd rfl rfl rfl (rd_extract rfl rfl) ?_
              refine gr_rd rfl rfl rfl (rd_assign rfl) ?_
              refine gr_rd rfl rfl rfl (rd_assign rfl) ?_
              refine gr_nil ?_
              refine gk_then ?_
              refine gc_seq ?_
              refine gc_seqr [(.mv, 0), (.mv, 1), (.mv, 2), (.mv, 3), (.mv, 4), (.mv, 5), (.nm, 6), (.mv, 7), (.mv, 8), (.mv, 9), (.mv, 10), (.mv, 11), (.nm, 12), (.mv, 13), (.mv, 14), (.mv, 15), (.mv, 16), (.mv, 17), (.mv, 18)] rfl ?_
              refine gr_rd rfl rfl rfl (rd_move rfl) ?_
              refine gr_rd rfl rfl rfl (rd_move rfl) ?_
              refine gr_rd rfl rfl rfl (rd_neq rfl rfl) ?_
              rw [bne_self_eq_false]
              refine gr_rd rfl rfl rfl (rd_move rfl) ?_
              refine gr_rd rfl rfl rfl (rd_move rfl) ?_
              refine gr_rd rfl rfl rfl (rd_move rfl) ?_
              refine gr_nx rfl rfl rfl (nx_call Tryd.en25 rfl (ids_cc _ _ _ _ _ _ (Ow.slT encId_length hOl rfl (by omega) (by intro x hx; simp [hx])) (Ow.slT encId_length hOk rfl (by omega) (by intro x hx; simp [hx])))) ?_; rintro v101 H' L' hle ⟨rfl, rfl, rfl⟩; refine ⟨trivial, ?_⟩
              rw [dec_self (take s q).2.1]
              refine gr_perm (L' := (Ck ++ (Cl ++ [(b17, .cells (encOpV (q, pq)).toArray 38 (0, 0))])) ++ ((b, .cells [.map (some bo), .map (some bw), .map (some bt)].toArray 83 (0, 0)) :: (bo, ob2) :: (bw, ow2) :: (bt, ot2) :: ((br, .cells [w0, w1, w2, w3].toArray 48 (0, 0)) :: (E0 ++ (E1 ++ (E2 ++ (E3 ++ ((b9, .cells (encDraft d).toArray 36 (0, 0)) :: (b7, .cells (encId nm).toArray 33 (0, 0)) :: L)))))))) (by haveI : DecidableEq (Nat × Obj) := fun _ _ => Classical.propDecidable _; rw [List.perm_iff_count]; intro a; simp only [List.count_append, List.count_cons, List.count_nil]; ac_rfl) ?_
              refine gr_drop (L' := ((b, .cells [.map (some bo), .map (some bw), .map (some bt)].toArray 83 (0, 0)) :: (bo, ob2) :: (bw, ow2) :: (bt, ot2) :: ((br, .cells [w0, w1, w2, w3].toArray 48 (0, 0)) :: (E0 ++ (E1 ++ (E2 ++ (E3 ++ ((b9, .cells (encDraft d).toArray 36 (0, 0)) :: (b7, .cells (encId nm).toArray 33 (0, 0)) :: L)))))))) (List.sublist_append_right _ _) ?_
              refine gr_rd rfl rfl rfl (rd_not rfl) ?_
              (first | refine gr_rd rfl rfl rfl (rd_pick_t rfl rfl) ?_ | refine gr_rd rfl rfl rfl (rd_pick_f rfl rfl) ?_)
              refine gr_rd rfl rfl rfl (rd_move rfl) ?_
              refine gr_rd rfl rfl rfl (rd_move rfl) ?_
              refine gr_rd rfl rfl rfl (rd_move rfl) ?_
              refine gr_nx rfl rfl rfl (nx_call Tryd.en22 rfl (same2_cc _ _ hR2 (hS2.view (T := 48) (z := (0, 0)) (by omega) (by simp) (by intro x hx; simp [hx]) (by intro x hx; simp [hx]) (by intro x hx; simp [hx]) (by intro x hx; simp [hx])) (by omega))) ?_; rintro v107 H' L' hle ⟨rfl, rfl, rfl⟩; refine ⟨trivial, ?_⟩
              refine gr_rd rfl rfl rfl (rd_not rfl) ?_
              (first | refine gr_rd rfl rfl rfl (rd_pick_t rfl rfl) ?_ | refine gr_rd rfl rfl rfl (rd_pick_f rfl rfl) ?_)
              refine gr_rd rfl rfl rfl (rd_move rfl) ?_
              refine gr_rd rfl rfl rfl (rd_move rfl) ?_
              refine gr_rd rfl rfl rfl (rd_neq rfl rfl) ?_
              (first | refine gr_rd rfl rfl rfl (rd_pick_t rfl rfl) ?_ | refine gr_rd rfl rfl rfl (rd_pick_f rfl rfl) ?_)
              refine gr_nil ?_
              refine gk_then ?_
              refine gc_no rfl ?_
              refine gc_skip ?_
              refine gk_inBlock ?_
              refine gk_then ?_
              refine gc_seqr [(.mv, 0), (.mv, 1)] rfl ?_
              (first | refine gr_rd rfl rfl rfl (rd_add rfl rfl (IntWalk.i64_in _ (by omega))) ?_ | refine gr_rd rfl rfl rfl (rd_add rfl rfl rfl) ?_)
              refine gr_rd rfl rfl rfl (rd_move rfl) ?_
              refine gr_nil ?_
              refine gk_round ⟨k + 1, (take s q).1, ob2, ow2, ot2, w0, w1, w2, w3, sv', sw', E0, E1, E2, E3⟩ ?_ ⟨by first | assumption | exact Gh.le_trans (by assumption) (by assumption), rfl, hR2, hS2, hC.take hfit, by simp only; omega, by simp only; omega⟩ (by repeat (first | exact Subs.nil | refine Subs.cons rfl ?_))
              show ns.length - (k + 1) < ns.length - k
              omega
            · have hkk : k ≤ 60 := by omega
              have hsm2 : ∀ p ∈ s.ops, p.2.preds.length ≤ 32 := fun p hp => hR.small p (List.mem_append_left _ hp)
              have hhl := heads_le s
              have hnp := next_preds s author d
              refine gc_exit ?_
              refine gk_exit_then ?_
              refine gk_exit_then ?_
              refine gk_here ?_
              refine gk_then ?_
              refine gc_seq ?_
              refine gc_seqr [(.mv, 0), (.mv, 1), (.mv, 2), (.nm, 3), (.mv, 4), (.mv, 5), (.mv, 6), (.nm, 7), (.nm, 8), (.mv, 9)] rfl ?_
              refine gr_rd rfl rfl rfl (rd_move rfl) ?_
              refine gr_rd rfl rfl rfl (rd_move rfl) ?_
              refine gr_rd rfl rfl rfl (rd_loadA Tryd.ta36 rfl (Cells.own (l := encDraft d) (T := 36) (z := (0, 0)) (by simp [baseL])) (Seg.all _) (encDraft_length _)) ?_
              refine gr_nx rfl rfl rfl (nx_call Tryd.en26 rfl (next_cc _ _ hR (by omega) author d)) ?_; rintro v119 H' L' hle ⟨Cx, px, rfl, hOx, rfl, rfl⟩; refine ⟨trivial, ?_⟩
              refine gr_rd rfl rfl rfl (rd_move rfl) ?_
              refine gr_rd rfl rfl rfl (rd_extract rfl rfl) ?_
              refine gr_rd rfl rfl rfl (rd_extract rfl rfl) ?_
              refine gr_nx rfl rfl rfl (nx_alloc Tryd.zeroValue38 rfl) ?_; rintro _ _ _ _ ⟨b24, rfl, rfl, rfl⟩; refine ⟨trivial, ?_⟩
              refine gr_nx0 rfl rfl (nx_store (vs := encOp (next s author d).1 px) Tryd.sizeOf38 rfl rfl rfl (encOp_length _ _) (by repeat (first | exact Upd.here | exact Upd.appl (by assumption) | apply Upd.there | apply Upd.app)) (by simp) (encOp_ones _ hOx.one)) ?_; rintro _ _ _ _ ⟨rfl, rfl, rfl⟩; refine ⟨trivial, ?_⟩
              rw [wr_all (by simp)]
              refine gr_rd rfl rfl rfl (rd_assign rfl) ?_
              refine gr_nil ?_
              refine gk_then ?_
              refine gc_seq ?_
              refine gc_seqr [(.mv, 0), (.mv, 1), (.mv, 2), (.nm, 3), (.mv, 4), (.mv, 5), (.mv, 6), (.nm, 7), (.nm, 8), (.mv, 9)] rfl ?_
              refine gr_rd rfl rfl rfl (rd_move rfl) ?_
              refine gr_rd rfl rfl rfl (rd_move rfl) ?_
              refine gr_rd rfl rfl rfl (rd_loadA Tryd.ta36 rfl (Cells.own (l := encDraft d) (T := 36) (z := (0, 0)) (by simp [baseL])) (Seg.all _) (encDraft_length _)) ?_
              refine gr_nx rfl rfl rfl (nx_call Tryd.en27 rfl (rnext_cc _ _ (hS.view (T := 48) (z := (0, 0)) (by omega) (by simp) (by intro x hx; simp [hx]) (by intro x hx; simp [hx]) (by intro x hx; simp [hx]) (by intro x hx; simp [hx])) (by omega) author d)) ?_; rintro v126 H' L' hle ⟨Cy, py, rfl, hOy, rfl, rfl⟩; refine ⟨trivial, ?_⟩
              refine gr_rd rfl rfl rfl (rd_move rfl) ?_
              refine gr_rd rfl rfl rfl (rd_extract rfl rfl) ?_
              refine gr_rd rfl rfl rfl (rd_extract rfl rfl) ?_
              refine gr_nx rfl rfl rfl (nx_alloc Tryd.zeroValue38 rfl) ?_; rintro _ _ _ _ ⟨b26, rfl, rfl, rfl⟩; refine ⟨trivial, ?_⟩
              refine gr_nx0 rfl rfl (nx_store (vs := encOp (next s author d).1 py) Tryd.sizeOf38 rfl rfl rfl (encOp_length _ _) (by repeat (first | exact Upd.here | exact Upd.appl (by assumption) | apply Upd.there | apply Upd.app)) (by simp) (encOp_ones _ hOy.one)) ?_; rintro _ _ _ _ ⟨rfl, rfl, rfl⟩; refine ⟨trivial, ?_⟩
              rw [wr_all (by simp)]
              refine gr_rd rfl rfl rfl (rd_assign rfl) ?_
              refine gr_nil ?_
              refine gk_then ?_
              refine gc_seq ?_
              refine gc_seqr [(.mv, 0), (.mv, 1), (.nm, 2), (.mv, 3), (.mv, 4), (.mv, 5), (.nm, 6), (.nm, 7), (.mv, 8)] rfl ?_
              refine gr_rd rfl rfl rfl (rd_move rfl) ?_
              refine gr_rd rfl rfl rfl (rd_loadA Tryd.ta33 rfl (Cells.own (l := encId nm) (T := 33) (z := (0, 0)) (by simp [baseL])) (Seg.all _) (encId_length _)) ?_
              refine gr_nx rfl rfl rfl (nx_call Tryd.en15 rfl (get_cc _ _ (hR.view (b := b) (bo := bo) (bw := bw) (bt := bt) (Cells.own (l := [.map (some bo), .map (some bw), .map (some bt)]) (T := 83) (z := (0, 0)) (by simp )) (by simp) (by simp) (by simp)) hsm2 nm)) ?_; rintro v132 H' L' hle ⟨Cz, pz, rfl, hOz, rfl, rfl⟩; refine ⟨trivial, ?_⟩
              refine gr_rd rfl rfl rfl (rd_move rfl) ?_
              refine gr_rd rfl rfl rfl (rd_extract rfl rfl) ?_
              refine gr_rd rfl rfl rfl (rd_extract rfl rfl) ?_
              refine gr_nx rfl rfl rfl (nx_alloc Tryd.zeroValue38 rfl) ?_; rintro _ _ _ _ ⟨b28, rfl, rfl, rfl⟩; refine ⟨trivial, ?_⟩
              refine gr_nx0 rfl rfl (nx_store (vs := encOp ((Tr.get s.ops nm).getD zeroOp) pz) Tryd.sizeOf38 rfl rfl rfl (encOp_length _ _) (by repeat (first | exact Upd.here | exact Upd.appl (by assumption) | apply Upd.there | apply Upd.app)) (by simp) (encOp_ones _ hOz.one)) ?_; rintro _ _ _ _ ⟨rfl, rfl, rfl⟩; refine ⟨trivial, ?_⟩
              rw [wr_all (by simp)]
              refine gr_rd rfl rfl rfl (rd_assign rfl) ?_
              refine gr_nil ?_
              refine gk_then ?_
              refine gc_seq ?_
              refine gc_seqr [(.mv, 0), (.mv, 1), (.nm, 2), (.mv, 3), (.mv, 4), (.mv, 5), (.nm, 6), (.nm, 7), (.mv, 8)] rfl ?_
              refine gr_rd rfl rfl rfl (rd_move rfl) ?_
              refine gr_rd rfl rfl rfl (rd_loadA Tryd.ta33 rfl (Cells.own (l := encId nm) (T := 33) (z := (0, 0)) (by simp [baseL])) (Seg.all _) (encId_length _)) ?_
              refine gr_nx rfl rfl rfl (nx_call Tryd.en15 rfl (get_nil _ _ nm)) ?_; rintro v138 H' L' hle ⟨rfl, rfl, rfl⟩; refine ⟨trivial, ?_⟩
              refine gr_rd rfl rfl rfl (rd_move rfl) ?_
              refine gr_rd rfl rfl rfl (rd_extract rfl rfl) ?_
              refine gr_rd rfl rfl rfl (rd_extract rfl rfl) ?_
              refine gr_nx rfl rfl rfl (nx_alloc Tryd.zeroValue38 rfl) ?_; rintro _ _ _ _ ⟨b30, rfl, rfl, rfl⟩; refine ⟨trivial, ?_⟩
              refine gr_nx0 rfl rfl (nx_store (vs := encOp zeroOp nilS) Tryd.sizeOf38 rfl rfl rfl (encOp_length _ _) (by repeat (first | exact Upd.here | exact Upd.appl (by assumption) | apply Upd.there | apply Upd.app)) (by simp) (encOp_ones _ rfl)) ?_; rintro _ _ _ _ ⟨rfl, rfl, rfl⟩; refine ⟨trivial, ?_⟩
              rw [wr_all (by simp)]
              refine gr_rd rfl rfl rfl (rd_assign rfl) ?_
              refine gr_nil ?_
              refine gk_then ?_
              refine gc_seq ?_
              refine gc_seqr [(.mv, 0), (.mv, 1), (.nm, 2), (.mv, 3), (.mv, 4), (.mv, 5), (.nm, 6), (.nm, 7), (.mv, 8)] rfl ?_
              refine gr_rd rfl rfl rfl (rd_move rfl) ?_
              refine gr_rd rfl rfl rfl (rd_loadA Tryd.ta36 rfl (Cells.own (l := encDraft d) (T := 36) (z := (0, 0)) (by simp [baseL])) (Seg.all _) (encDraft_length _)) ?_
              refine gr_nx rfl rfl rfl (nx_call Tryd.en26 rfl (next_nil _ _ 0 d)) ?_; rintro v144 H' L' hle ⟨rfl, rfl, rfl⟩; refine ⟨trivial, ?_⟩
              refine gr_rd rfl rfl rfl (rd_move rfl) ?_
              refine gr_rd rfl rfl rfl (rd_extract rfl rfl) ?_
              refine gr_rd rfl rfl rfl (rd_extract rfl rfl) ?_
              refine gr_nx rfl rfl rfl (nx_alloc Tryd.zeroValue38 rfl) ?_; rintro _ _ _ _ ⟨b32, rfl, rfl, rfl⟩; refine ⟨trivial, ?_⟩
              refine gr_nx0 rfl rfl (nx_store (vs := encOp zeroOp nilS) Tryd.sizeOf38 rfl rfl rfl (encOp_length _ _) (by repeat (first | exact Upd.here | exact Upd.appl (by assumption) | apply Upd.there | apply Upd.app)) (by simp) (encOp_ones _ rfl)) ?_; rintro _ _ _ _ ⟨rfl, rfl, rfl⟩; refine ⟨trivial, ?_⟩
              rw [wr_all (by simp)]
              refine gr_rd rfl rfl rfl (rd_assign rfl) ?_
              refine gr_nil ?_
              refine gk_then ?_
              refine gc_seq ?_
              refine gc_draw Tryd.mixed [(.mv, 0), (.mv, 1), (.mv, 2), (.mv, 3), (.mv, 4), (.mv, 5), (.nm, 6), (.mv, 7), (.mv, 8), (.mv, 9), (.mv, 10), (.mv, 11), (.mv, 12), (.nm, 13), (.mv, 14), (.mv, 15), (.mv, 16), (.mv, 17), (.mv, 18), (.mv, 19), (.mv, 20), (.mv, 21), (.mv, 22), (.mv, 23), (.mv, 24), (.mv, 25), (.mv, 26), (.mv, 27), (.mv, 28), (.mv, 29), (.mv, 30), (.mv, 31), (.mv, 32), (.mv, 33), (.mv, 34), (.mv, 37), (.mv, 41), (.mv, 45), (.mv, 46), (.nm, 35), (.mv, 36), (.nm, 38), (.mv, 39), (.mv, 40), (.nm, 42), (.mv, 43), (.mv, 44), (.nm, 47), (.mv, 48), (.mv, 49), (.mv, 50), (.mv, 51), (.mv, 52)] (by decide +kernel) _ (List.Sublist.refl _) ?_
              refine gr_rd rfl rfl rfl (rd_move rfl) ?_
              refine gr_rd rfl rfl rfl (rd_move rfl) ?_
              refine gr_rd rfl rfl rfl (rd_eql rfl rfl) ?_
              rw [beq_self_eq_true]
              refine gr_rd rfl rfl rfl (rd_move rfl) ?_
              refine gr_rd rfl rfl rfl (rd_loadA Tryd.ta38 rfl (Cells.own (l := encOp (next s author d).1 px) (T := 38) (z := (0, 0)) (by simp [baseL])) (Seg.all _) (encOp_length _ _)) ?_
              refine gr_rd rfl rfl rfl (rd_loadA Tryd.ta38 rfl (Cells.own (l := encOp (next s author d).1 py) (T := 38) (z := (0, 0)) (by simp [baseL])) (Seg.all _) (encOp_length _ _)) ?_
              refine gr_nx rfl rfl rfl (nx_call Tryd.en20 rfl (same_cc _ _ (next s author d).1 (next s author d).1 px py (Ow.slT encId_length hOx rfl (by omega) (by intro x hx; simp [hx])) (Ow.slT encId_length hOy rfl (by omega) (by intro x hx; simp [hx])))) ?_; rintro v153 H' L' hle ⟨rfl, rfl, rfl⟩; refine ⟨⟨(by first | exact Gh.le_refl _ | assumption | exact Gh.le_trans (by assumption) (by assumption)), (by repeat (first | exact List.Sublist.refl _ | exact List.nil_sublist _ | apply List.Sublist.cons_cons | apply List.Sublist.cons | apply List.Sublist.append (List.Sublist.refl _) | refine List.Sublist.trans ?_ (List.sublist_append_right _ _)))⟩, ?_⟩
              rw [dec_self (next s author d).1]
              (first | refine gr_rd rfl rfl rfl (rd_pick_t rfl rfl) ?_ | refine gr_rd rfl rfl rfl (rd_pick_f rfl rfl) ?_)
              refine gr_rd rfl rfl rfl (rd_move rfl) ?_
              refine gr_rd rfl rfl rfl (rd_move rfl) ?_
              refine gr_rd rfl rfl rfl (rd_eql rfl rfl) ?_
              rw [if_has (has s.ops nm)]
              refine gr_rd rfl rfl rfl (rd_move rfl) ?_
              refine gr_rd rfl rfl rfl (rd_loadA Tryd.ta33 rfl (Cells.own (l := encId nm) (T := 33) (z := (0, 0)) (by simp [baseL])) (Seg.all _) (encId_length _)) ?_
              refine gr_nx rfl rfl rfl (nx_call Tryd.en23 rfl (rat_cc _ _ (hS.view (T := 48) (z := (0, 0)) (by omega) (by simp) (by intro x hx; simp [hx]) (by intro x hx; simp [hx]) (by intro x hx; simp [hx]) (by intro x hx; simp [hx])) nm)) ?_; rintro v160 H' L' hle ⟨rfl, rfl, rfl⟩; refine ⟨⟨(by first | exact Gh.le_refl _ | assumption | exact Gh.le_trans (by assumption) (by assumption)), (by repeat (first | exact List.Sublist.refl _ | exact List.nil_sublist _ | apply List.Sublist.cons_cons | apply List.Sublist.cons | apply List.Sublist.append (List.Sublist.refl _) | refine List.Sublist.trans ?_ (List.sublist_append_right _ _)))⟩, ?_⟩
              refine gr_rd rfl rfl rfl (rd_geq rfl rfl) ?_
              rw [has_pos (l := s.ops) (n := nm)]
              refine gr_rd rfl rfl rfl (rd_boolEq Tryd.underlying4 rfl rfl) ?_
              rw [beq_self_eq_true]
              (first | refine gr_rd rfl rfl rfl (rd_pick_t rfl rfl) ?_ | refine gr_rd rfl rfl rfl (rd_pick_f rfl rfl) ?_)
              refine gr_rd rfl rfl rfl (rd_move rfl) ?_
              refine gr_rd rfl rfl rfl (rd_move rfl) ?_
              refine gr_rd rfl rfl rfl (rd_eql rfl rfl) ?_
              rw [if_has (has s.ops nm)]
              refine gr_rd rfl rfl rfl (rd_move rfl) ?_
              refine gr_split rfl (fun hg20 => ?_) (fun hg20 => ?_)
              · skip
                refine gr_no rfl rfl rfl ?_
                refine gr_no rfl rfl rfl ?_
                (first | refine gr_rd rfl rfl rfl (rd_pick_t rfl rfl) ?_ | refine gr_rd rfl rfl rfl (rd_pick_f rfl rfl) ?_)
                (first | refine gr_rd rfl rfl rfl (rd_pick_t rfl rfl) ?_ | refine gr_rd rfl rfl rfl (rd_pick_f rfl rfl) ?_)
                refine gr_rd rfl rfl rfl (rd_move rfl) ?_
                refine gr_rd rfl rfl rfl (rd_move rfl) ?_
                refine gr_rd rfl rfl rfl (rd_eql rfl rfl) ?_
                (first | refine gr_rd rfl rfl rfl (rd_pick_t rfl rfl) ?_ | refine gr_rd rfl rfl rfl (rd_pick_f rfl rfl) ?_)
                refine gr_rd rfl rfl rfl (rd_move rfl) ?_
                refine gr_rd rfl rfl rfl (rd_move rfl) ?_
                refine gr_rd rfl rfl rfl (rd_eql rfl rfl) ?_
                (first | refine gr_rd rfl rfl rfl (rd_pick_t rfl rfl) ?_ | refine gr_rd rfl rfl rfl (rd_pick_f rfl rfl) ?_)
                refine gr_rd rfl rfl rfl (rd_move rfl) ?_
                refine gr_rd rfl rfl rfl (rd_move rfl) ?_
                refine gr_rd rfl rfl rfl (rd_move rfl) ?_
                refine gr_rd rfl rfl rfl (rd_move rfl) ?_
                refine gr_rd rfl rfl rfl (rd_move rfl) ?_
                refine gr_rd rfl rfl rfl (rd_loadA Tryd.ta33 rfl (Cells.own (l := encId nm) (T := 33) (z := (0, 0)) (by simp [baseL])) (Seg.all _) (encId_length _)) ?_
                refine gr_nx rfl rfl rfl (nx_call Tryd.en14 rfl (names_nil _ _)) ?_; rintro v182 H' L' hle ⟨rfl, rfl, rfl⟩; refine ⟨⟨(by first | exact Gh.le_refl _ | assumption | exact Gh.le_trans (by assumption) (by assumption)), (by repeat (first | exact List.Sublist.refl _ | exact List.nil_sublist _ | apply List.Sublist.cons_cons | apply List.Sublist.cons | apply List.Sublist.append (List.Sublist.refl _) | refine List.Sublist.trans ?_ (List.sublist_append_right _ _)))⟩, ?_⟩
                refine gr_rd rfl rfl rfl (rd_lenS Tryd.underlying29 rfl) ?_
                refine gr_nx rfl rfl rfl (nx_call Tryd.en21 rfl (heads_nil _ _)) ?_; rintro v185 H' L' hle ⟨rfl, rfl, rfl⟩; refine ⟨⟨(by first | exact Gh.le_refl _ | assumption | exact Gh.le_trans (by assumption) (by assumption)), (by repeat (first | exact List.Sublist.refl _ | exact List.nil_sublist _ | apply List.Sublist.cons_cons | apply List.Sublist.cons | apply List.Sublist.append (List.Sublist.refl _) | refine List.Sublist.trans ?_ (List.sublist_append_right _ _)))⟩, ?_⟩
                refine gr_rd rfl rfl rfl (rd_lenS Tryd.underlying29 rfl) ?_
                (first | refine gr_rd rfl rfl rfl (rd_add rfl rfl (IntWalk.i64_in _ (by omega))) ?_ | refine gr_rd rfl rfl rfl (rd_add rfl rfl rfl) ?_)
                refine gr_nx rfl rfl rfl (nx_call Tryd.en18 rfl (waits_nil _ _)) ?_; rintro v189 H' L' hle ⟨rfl, rfl, rfl⟩; refine ⟨⟨(by first | exact Gh.le_refl _ | assumption | exact Gh.le_trans (by assumption) (by assumption)), (by repeat (first | exact List.Sublist.refl _ | exact List.nil_sublist _ | apply List.Sublist.cons_cons | apply List.Sublist.cons | apply List.Sublist.append (List.Sublist.refl _) | refine List.Sublist.trans ?_ (List.sublist_append_right _ _)))⟩, ?_⟩
                refine gr_rd rfl rfl rfl (rd_lenS Tryd.underlying29 rfl) ?_
                (first | refine gr_rd rfl rfl rfl (rd_add rfl rfl (IntWalk.i64_in _ (by omega))) ?_ | refine gr_rd rfl rfl rfl (rd_add rfl rfl rfl) ?_)
                refine gr_nx rfl rfl rfl (nx_call Tryd.en28 rfl (past_nil _ _ nm)) ?_; rintro v194 H' L' hle ⟨rfl, rfl, rfl⟩; refine ⟨⟨(by first | exact Gh.le_refl _ | assumption | exact Gh.le_trans (by assumption) (by assumption)), (by repeat (first | exact List.Sublist.refl _ | exact List.nil_sublist _ | apply List.Sublist.cons_cons | apply List.Sublist.cons | apply List.Sublist.append (List.Sublist.refl _) | refine List.Sublist.trans ?_ (List.sublist_append_right _ _)))⟩, ?_⟩
                refine gr_rd rfl rfl rfl (rd_lenS Tryd.underlying29 rfl) ?_
                (first | refine gr_rd rfl rfl rfl (rd_add rfl rfl (IntWalk.i64_in _ (by omega))) ?_ | refine gr_rd rfl rfl rfl (rd_add rfl rfl rfl) ?_)
                refine gr_rd rfl rfl rfl (rd_eql rfl rfl) ?_
                (first | refine gr_rd rfl rfl rfl (rd_pick_t rfl rfl) ?_ | refine gr_rd rfl rfl rfl (rd_pick_f rfl rfl) ?_)
                refine gr_rd rfl rfl rfl (rd_assign rfl) ?_
                refine gr_nil ?_
                refine gk_then ?_
                refine gc_ret ?_
                refine gk_drop (L' := L) (by repeat (first | exact List.Sublist.refl _ | exact List.nil_sublist _ | apply List.Sublist.cons_cons | apply List.Sublist.cons | refine List.Sublist.trans ?_ (List.sublist_append_right _ _))) ?_
                refine gk_result (L' := L) (.inl rfl) _ (res1 rfl rfl) (List.Sublist.refl _) (by first | exact Gh.le_refl _ | assumption | exact Gh.le_trans (by assumption) (by assumption)) ?_
                exact ⟨rfl, rfl⟩
              · skip
                refine gr_rd rfl rfl rfl (rd_move rfl) ?_
                refine gr_rd rfl rfl rfl (rd_eql rfl rfl) ?_
                rw [hg20]
                (first | refine gr_rd rfl rfl rfl (rd_pick_t rfl rfl) ?_ | refine gr_rd rfl rfl rfl (rd_pick_f rfl rfl) ?_)
                (first | refine gr_rd rfl rfl rfl (rd_pick_t rfl rfl) ?_ | refine gr_rd rfl rfl rfl (rd_pick_f rfl rfl) ?_)
                refine gr_rd rfl rfl rfl (rd_move rfl) ?_
                refine gr_rd rfl rfl rfl (rd_move rfl) ?_
                refine gr_rd rfl rfl rfl (rd_eql rfl rfl) ?_
                (first | refine gr_rd rfl rfl rfl (rd_pick_t rfl rfl) ?_ | refine gr_rd rfl rfl rfl (rd_pick_f rfl rfl) ?_)
                refine gr_rd rfl rfl rfl (rd_move rfl) ?_
                refine gr_rd rfl rfl rfl (rd_move rfl) ?_
                refine gr_rd rfl rfl rfl (rd_eql rfl rfl) ?_
                (first | refine gr_rd rfl rfl rfl (rd_pick_t rfl rfl) ?_ | refine gr_rd rfl rfl rfl (rd_pick_f rfl rfl) ?_)
                refine gr_rd rfl rfl rfl (rd_move rfl) ?_
                refine gr_rd rfl rfl rfl (rd_move rfl) ?_
                refine gr_rd rfl rfl rfl (rd_move rfl) ?_
                refine gr_rd rfl rfl rfl (rd_move rfl) ?_
                refine gr_rd rfl rfl rfl (rd_move rfl) ?_
                refine gr_rd rfl rfl rfl (rd_loadA Tryd.ta33 rfl (Cells.own (l := encId nm) (T := 33) (z := (0, 0)) (by simp [baseL])) (Seg.all _) (encId_length _)) ?_
                refine gr_nx rfl rfl rfl (nx_call Tryd.en14 rfl (names_nil _ _)) ?_; rintro v182 H' L' hle ⟨rfl, rfl, rfl⟩; refine ⟨⟨(by first | exact Gh.le_refl _ | assumption | exact Gh.le_trans (by assumption) (by assumption)), (by repeat (first | exact List.Sublist.refl _ | exact List.nil_sublist _ | apply List.Sublist.cons_cons | apply List.Sublist.cons | apply List.Sublist.append (List.Sublist.refl _) | refine List.Sublist.trans ?_ (List.sublist_append_right _ _)))⟩, ?_⟩
                refine gr_rd rfl rfl rfl (rd_lenS Tryd.underlying29 rfl) ?_
                refine gr_nx rfl rfl rfl (nx_call Tryd.en21 rfl (heads_nil _ _)) ?_; rintro v185 H' L' hle ⟨rfl, rfl, rfl⟩; refine ⟨⟨(by first | exact Gh.le_refl _ | assumption | exact Gh.le_trans (by assumption) (by assumption)), (by repeat (first | exact List.Sublist.refl _ | exact List.nil_sublist _ | apply List.Sublist.cons_cons | apply List.Sublist.cons | apply List.Sublist.append (List.Sublist.refl _) | refine List.Sublist.trans ?_ (List.sublist_append_right _ _)))⟩, ?_⟩
                refine gr_rd rfl rfl rfl (rd_lenS Tryd.underlying29 rfl) ?_
                (first | refine gr_rd rfl rfl rfl (rd_add rfl rfl (IntWalk.i64_in _ (by omega))) ?_ | refine gr_rd rfl rfl rfl (rd_add rfl rfl rfl) ?_)
                refine gr_nx rfl rfl rfl (nx_call Tryd.en18 rfl (waits_nil _ _)) ?_; rintro v189 H' L' hle ⟨rfl, rfl, rfl⟩; refine ⟨⟨(by first | exact Gh.le_refl _ | assumption | exact Gh.le_trans (by assumption) (by assumption)), (by repeat (first | exact List.Sublist.refl _ | exact List.nil_sublist _ | apply List.Sublist.cons_cons | apply List.Sublist.cons | apply List.Sublist.append (List.Sublist.refl _) | refine List.Sublist.trans ?_ (List.sublist_append_right _ _)))⟩, ?_⟩
                refine gr_rd rfl rfl rfl (rd_lenS Tryd.underlying29 rfl) ?_
                (first | refine gr_rd rfl rfl rfl (rd_add rfl rfl (IntWalk.i64_in _ (by omega))) ?_ | refine gr_rd rfl rfl rfl (rd_add rfl rfl rfl) ?_)
                refine gr_nx rfl rfl rfl (nx_call Tryd.en28 rfl (past_nil _ _ nm)) ?_; rintro v194 H' L' hle ⟨rfl, rfl, rfl⟩; refine ⟨⟨(by first | exact Gh.le_refl _ | assumption | exact Gh.le_trans (by assumption) (by assumption)), (by repeat (first | exact List.Sublist.refl _ | exact List.nil_sublist _ | apply List.Sublist.cons_cons | apply List.Sublist.cons | apply List.Sublist.append (List.Sublist.refl _) | refine List.Sublist.trans ?_ (List.sublist_append_right _ _)))⟩, ?_⟩
                refine gr_rd rfl rfl rfl (rd_lenS Tryd.underlying29 rfl) ?_
                (first | refine gr_rd rfl rfl rfl (rd_add rfl rfl (IntWalk.i64_in _ (by omega))) ?_ | refine gr_rd rfl rfl rfl (rd_add rfl rfl rfl) ?_)
                refine gr_rd rfl rfl rfl (rd_eql rfl rfl) ?_
                (first | refine gr_rd rfl rfl rfl (rd_pick_t rfl rfl) ?_ | refine gr_rd rfl rfl rfl (rd_pick_f rfl rfl) ?_)
                refine gr_rd rfl rfl rfl (rd_assign rfl) ?_
                refine gr_nil ?_
                refine gk_then ?_
                refine gc_ret ?_
                refine gk_drop (L' := L) (by repeat (first | exact List.Sublist.refl _ | exact List.nil_sublist _ | apply List.Sublist.cons_cons | apply List.Sublist.cons | refine List.Sublist.trans ?_ (List.sublist_append_right _ _))) ?_
                refine gk_result (L' := L) (.inl rfl) _ (res1 rfl rfl) (List.Sublist.refl _) (by first | exact Gh.le_refl _ | assumption | exact Gh.le_trans (by assumption) (by assumption)) ?_
                exact ⟨rfl, rfl⟩
end Go.Proofs.YtfhldfjknagidaaDoor
