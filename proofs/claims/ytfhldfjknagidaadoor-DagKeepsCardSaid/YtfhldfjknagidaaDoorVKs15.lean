/-
  Walks: the operations that are made of recipes.
-/
import Derived.Test.YtfhldfjknagidaaDoorVKs14
import Derived.Test.YtfhldfjknagidaaDoorVKr
set_option linter.unusedSimpArgs false
set_option linter.unusedVariables false
namespace Go.Proofs.YtfhldfjknagidaaDoor
open Go.VK Go.Tr
set_option maxRecDepth 20000
attribute [local irreducible] Go.Tr.sha
theorem RSet.up {H H' : Gh} {s : DSet} {v0 v1 v2 v3 : Value} {ov wv : List (POp × Value)} {C0 C1 C2 C3 : Chunks} (h : RSet H s v0 v1 v2 v3 ov wv C0 C1 C2 C3) (hH : H ≤ H') : RSet H' s v0 v1 v2 v3 ov wv C0 C1 C2 C3 :=
  ⟨h.ops, h.opsE, h.wait, h.waitE, h.names, h.waits, fun p hp => (h.preds p hp).up hH, fun p hp => (h.predsW p hp).up hH⟩
structure MS where
  k : Nat
  s : DSet
  o : List (POp × Value)
  v0 : Value
  v1 : Value
  v2 : Value
  v3 : Value
  ov : List (POp × Value)
  wv : List (POp × Value)
  C0 : Chunks
  C1 : Chunks
  C2 : Chunks
  C3 : Chunks
  Co : Chunks
  vo : Value
/-- What is made fits. -/
structure FitO (o : POp) : Prop where
  rng : RngO o
  preds : o.preds.length ≤ 70
  key : o.draft.key.length ≤ 100
  value : o.draft.value.length ≤ 100
theorem FitO.small {o : POp} (h : FitO o) : SmallO o :=
  ⟨⟨h.rng.kind, Nat.lt_of_le_of_lt h.key (by decide), Nat.lt_of_le_of_lt h.value (by decide)⟩, h.rng.author, h.rng.depth, Nat.lt_of_le_of_lt h.preds (by decide)⟩
/-- How a made operation comes of two that were made. -/
def byTwo (m : Tr.Make) (a b : POp) : POp := ⟨m.draft, m.author, wrap (wrap (1 + max a.depth b.depth) + m.deep.tmod 3), if a = b then rising [nameOf a] else rising [nameOf a, nameOf b]⟩
theorem makeOp_two {s : DSet} {out : List POp} {m : Tr.Make} (h : m.kind = 1) (h0 : 0 < out.length) : makeOp s out m = some (byTwo m (out.getD (pickAt m.at_ out.length) zeroOp) (out.getD (pickAt m.other out.length) zeroOp)) := by
  unfold makeOp byTwo
  rw [if_neg (by omega), if_pos ⟨h, h0⟩]
theorem makeOp_self {s : DSet} {out : List POp} {m : Tr.Make} (h0 : m.kind ≠ 0) (h : ¬ (m.kind = 1 ∧ 0 < out.length)) : makeOp s out m = some m.op := by
  unfold makeOp
  rw [if_neg h0, if_neg h]
theorem makeOp_next {s : DSet} {out : List POp} {m : Tr.Make} (h0 : m.kind = 0) (h : (next s m.author m.draft).2 = 0) : makeOp s out m = some (next s m.author m.draft).1 := by
  unfold makeOp
  rw [if_pos h0, if_pos h]
theorem makeOp_bad {s : DSet} {out : List POp} {m : Tr.Make} (h0 : m.kind = 0) (h : (next s m.author m.draft).2 ≠ 0) : makeOp s out m = none := by
  unfold makeOp
  rw [if_pos h0, if_neg h]
theorem getD_map {l : List (POp × Value)} {i : Nat} (h : i < l.length) : (l.map (·.1)).getD i zeroOp = (l[i]).1 := by
  rw [List.getD_eq_getElem?_getD, List.getElem?_map, List.getElem?_eq_getElem h]; rfl
theorem imax_eq (a b : Int) : (if b > a then b else a) = max a b := by
  split <;> omega
theorem rising_len2 (a b : Nm) : (rising [a, b]).length = 2 := rising_length _

set_option maxHeartbeats 4000000 in
theorem made_cc (H : Gh) (L : Chunks) (v : Value) (xs : List (Tr.Make × Value)) (hM : SlT encMakeV 78 H [] v xs) (hMp : ∀ p ∈ xs, Ids H [] p.2 p.1.op.preds) (hMr : ∀ p ∈ xs, RngM p.1) :
    CC Tryd.prog 11 #[v] H L (fun u H' L' => ∃ (ov : List (POp × Value)) (C : Chunks), Ow 38 38 C u ov.length (ov.flatMap encOpV) ∧ ov.map (·.1) = made (xs.map (·.1)) ∧ (∀ p ∈ ov, Ids H' [] p.2 p.1.preds ∧ FitO p.1) ∧ ov.length ≤ 30 ∧ C ++ L = L') := by
  obtain ⟨A, bv, of, cv, lv, rfl, hcv, hnv, hv0, hv1, hv2⟩ := hM
  refine cc_of Tryd.func11 rfl (Nat.le_of_ble_eq_true rfl) ?_
  simp only [Tryd.ntmps11]
  refine gc_seq ?_
  refine gc_seqr [(.mv, 0)] rfl ?_
  refine gr_rd rfl rfl rfl (rd_assign rfl) ?_
  refine gr_nil ?_
  refine gk_then ?_
  refine gc_seq ?_
  refine gc_seqr [(.mv, 0), (.nm, 1), (.mv, 2)] rfl ?_
  refine gr_rd rfl rfl rfl (rd_build Tryd.bt48 (ps := []) (l := [nilS, nilS, nilS, nilS]) rfl rfl) ?_
  refine gr_nx rfl rfl rfl (nx_box rfl rfl) ?_; rintro _ _ _ _ ⟨b13, rfl, rfl, rfl⟩; refine ⟨trivial, ?_⟩
  refine gr_rd rfl rfl rfl (rd_assign rfl) ?_
  refine gr_nil ?_
  refine gk_then ?_
  refine gc_seq ?_
  refine gc_seqr [(.mv, 0)] rfl ?_
  refine gr_rd rfl rfl rfl (rd_assign rfl) ?_
  refine gr_nil ?_
  refine gk_then ?_
  refine gc_seq ?_
  refine gc_seq ?_
  refine gc_seqr [(.mv, 0), (.mv, 1), (.mv, 2)] rfl ?_
  refine gr_rd rfl rfl rfl (rd_move rfl) ?_
  refine gr_rd rfl rfl rfl (rd_lenS Tryd.underlying22 rfl) ?_
  refine gr_rd rfl rfl rfl (rd_move rfl) ?_
  refine gr_nil ?_
  refine gk_then ?_
  refine gc_block ?_
  refine gc_loop (fun t : MS => [(3, pt b13 0), (4, t.vo), (14, .slice A xs.length cv), (15, i64 xs.length), (16, i64 t.k)]) (fun t H1 L1 => H ≤ H1 ∧ (b13, .cells [t.v0, t.v1, t.v2, t.v3].toArray 48 (0, 0)) :: (t.C0 ++ (t.C1 ++ (t.C2 ++ (t.C3 ++ (t.Co ++ L))))) = L1 ∧ RSet H1 t.s t.v0 t.v1 t.v2 t.v3 t.ov t.wv t.C0 t.C1 t.C2 t.C3 ∧ Ow 38 38 t.Co t.vo t.o.length (t.o.flatMap encOpV) ∧ (∀ p ∈ t.o, Ids H1 [] p.2 p.1.preds ∧ FitO p.1) ∧ t.k ≤ xs.length ∧ t.k ≤ 30 ∧ t.o.length ≤ t.k ∧ t.s.ops.length + t.s.wait.length ≤ t.k ∧ madeGo (30 - t.k) ((xs.map (·.1)).drop t.k) t.s (t.o.map (·.1)) = made (xs.map (·.1))) (fun t => xs.length - t.k) (⟨0, DSet.empty, [], nilS, nilS, nilS, nilS, [], [], [], [], [], [], [], nilS⟩) ?_ (by repeat (first | exact Subs.nil | refine Subs.cons rfl ?_)) ?_
  · exact ⟨Gh.le_refl _, rfl, ⟨Ow.nil, rfl, Ow.nil, rfl, Ow.nil, Ow.nil, (fun p hp => by cases hp), (fun p hp => by cases hp)⟩, Ow.nil, (fun p hp => by cases hp), Nat.zero_le _, Nat.zero_le _, Nat.le_refl _, Nat.le_refl _, rfl⟩
  · rintro ⟨k, s, ov, v0, v1, v2, v3, sv, sw, C0, C1, C2, C3, Co, vo⟩ H1 L1 ⟨hH1, rfl, hS, hO, hov, hk, hk30, hol, hsl, hgo⟩
    simp only at hS hO hov hk hk30 hol hsl hgo
    obtain ⟨Ao, co, rfl, hco⟩ := hO.slice
    show GC _ _ _ _ [(3, pt b13 0), (4, (.slice Ao ov.length co)), (14, .slice A xs.length cv), (15, i64 xs.length), (16, i64 k)] H1 ((b13, .cells [v0, v1, v2, v3].toArray 48 (0, 0)) :: (C0 ++ (C1 ++ (C2 ++ (C3 ++ (Co ++ L))))))
    refine gc_seq ?_
    refine gc_seqr [(.mv, 0)] rfl ?_
    refine gr_rd rfl rfl rfl (rd_lss rfl rfl) ?_
    refine gr_nil ?_
    refine gk_then ?_
    refine gc_seq ?_
    refine gc_cond rfl (fun hc0 => ?_) (fun hc0 => ?_)
    · have hlt : k < xs.length := by simpa using hc0
      obtain ⟨mk, hmk⟩ : ∃ mk, xs[k]? = some mk := ⟨_, List.getElem?_eq_getElem hlt⟩
      obtain ⟨hAe, hca, hsa⟩ := slt_at (i := (k : Int)) hv1 hv2 hmk rfl
      have hca1 := hca.mono (L' := ((b13, .cells [v0, v1, v2, v3].toArray 48 (0, 0)) :: (C0 ++ (C1 ++ (C2 ++ (C3 ++ (Co ++ L))))))) hH1 (fun x hx => by cases hx)
      have hmm := List.mem_of_getElem? hmk
      have hmp := (hMp mk hmm).up hH1
      have hmr := hMr mk hmm
      have hdk : (xs.map (·.1)).drop k = mk.1 :: (xs.map (·.1)).drop (k + 1) := by
        have h1 : k < (xs.map (·.1)).length := by simpa using hlt
        rw [List.drop_eq_getElem_cons h1]
        congr 1
        rw [List.getElem_map]
        rw [List.getElem?_eq_getElem hlt] at hmk
        rw [Option.some.inj hmk]
      refine gc_skip ?_
      refine gk_then ?_
      refine gc_seq ?_
      refine gc_block ?_
      refine gc_seq ?_
      refine gc_seqr [(.mv, 0), (.mv, 1), (.mv, 2), (.nm, 3), (.mv, 4), (.nm, 5)] rfl ?_
      refine gr_rd rfl rfl rfl (rd_move rfl) ?_
      refine gr_rd rfl rfl rfl (rd_indexS Tryd.underlying22 Tryd.sizeOf78 rfl rfl hAe (by omega) (by omega)) ?_
      refine gr_rd rfl rfl rfl (rd_loadA Tryd.ta78 rfl hca1 hsa (encMakeV_length _)) ?_
      refine gr_nx rfl rfl rfl (nx_alloc Tryd.zeroValue78 rfl) ?_; rintro _ _ _ _ ⟨b6, rfl, rfl, rfl⟩; refine ⟨trivial, ?_⟩
      refine gr_rd rfl rfl rfl (rd_assign rfl) ?_
      refine gr_nx0 rfl rfl (nx_store (vs := encMakeV mk) Tryd.sizeOf78 rfl rfl rfl (encMakeV_length _) (by repeat (first | exact Upd.here | exact Upd.appl (by assumption) | apply Upd.there | apply Upd.app)) (by simp) (encMakeV_ones hmp.one)) ?_; rintro _ _ _ _ ⟨rfl, rfl, rfl⟩; refine ⟨trivial, ?_⟩
      rw [wr_all (by simp)]
      refine gr_nil ?_
      refine gk_then ?_
      refine gc_seq ?_
      refine gc_seq ?_
      refine gc_seqr [(.mv, 0), (.mv, 1)] rfl ?_
      refine gr_rd rfl rfl rfl (rd_move rfl) ?_
      refine gr_rd rfl rfl rfl (rd_eql rfl rfl) ?_
      refine gr_nil ?_
      refine gk_then ?_
      refine gc_cond rfl (fun hc1 => ?_) (fun hc1 => ?_)
      · have hk3 : k = 30 := by simp at hc1; omega
        have hgo2 : ov.map (·.1) = made (xs.map (·.1)) := by rw [← hgo, hk3]; rfl
        refine gc_exit ?_
        refine gk_exit_then ?_
        refine gk_there rfl ?_
        refine gk_exit_then ?_
        refine gk_exit_then ?_
        refine gk_here ?_
        refine gk_then ?_
        refine gc_seq ?_
        refine gc_seqr [(.mv, 0), (.mv, 1)] rfl ?_
        refine gr_rd rfl rfl rfl (rd_move rfl) ?_
        refine gr_rd rfl rfl rfl (rd_assign rfl) ?_
        refine gr_nil ?_
        refine gk_then ?_
        refine gc_ret ?_
        refine gk_result (L' := Co ++ L) (.inl rfl) _ (res1 rfl rfl) (by repeat (first | exact List.Sublist.refl _ | apply List.Sublist.cons_cons | apply List.Sublist.cons | apply List.Sublist.append (List.Sublist.refl _) | refine List.Sublist.trans ?_ (List.sublist_append_right _ _))) (by first | exact Gh.le_refl _ | assumption | exact Gh.le_trans (by assumption) (by assumption)) ?_
        exact ⟨ov, Co, hO, hgo2, hov, by omega, rfl⟩
      · have hk3 : k ≠ 30 := by simp at hc1; omega
        have hf30 : 30 - k = (30 - (k + 1)) + 1 := by omega
        rw [hdk, hf30] at hgo
        refine gc_skip ?_
        refine gk_then ?_
        refine gc_seq ?_
        refine gc_seqr [(.mv, 0), (.mv, 1), (.nm, 2), (.nm, 3)] rfl ?_
        refine gr_rd rfl rfl rfl (rd_fieldAddr Tryd.fa78_6 rfl) ?_
        refine gr_rd rfl rfl rfl (rd_loadA Tryd.ta38 rfl (Cells.own List.mem_cons_self) (encMakeV_seg_op mk) (encOp_length _ _)) ?_
        refine gr_nx rfl rfl rfl (nx_alloc Tryd.zeroValue38 rfl) ?_; rintro _ _ _ _ ⟨b7, rfl, rfl, rfl⟩; refine ⟨trivial, ?_⟩
        refine gr_nx0 rfl rfl (nx_store (vs := encOp mk.1.op mk.2) Tryd.sizeOf38 rfl rfl rfl (encOp_length _ _) (by repeat (first | exact Upd.here | exact Upd.appl (by assumption) | apply Upd.there | apply Upd.app)) (by simp) (encOp_ones _ hmp.one)) ?_; rintro _ _ _ _ ⟨rfl, rfl, rfl⟩; refine ⟨trivial, ?_⟩
        rw [wr_all (by simp)]
        refine gr_nil ?_
        refine gk_then ?_
        refine gc_cut (fun q : POp × Value => [(3, pt b13 0), (4, (.slice Ao ov.length co)), (14, .slice A xs.length cv), (15, i64 xs.length), (16, i64 k), (6, pt b6 0), (7, pt b7 0)]) (fun q H2 L2 => H1 ≤ H2 ∧ (b7, .cells (encOpV q).toArray 38 (0, 0)) :: (b6, .cells (encMakeV mk).toArray 78 (0, 0)) :: ((b13, .cells [v0, v1, v2, v3].toArray 48 (0, 0)) :: (C0 ++ (C1 ++ (C2 ++ (C3 ++ (Co ++ L)))))) = L2 ∧ Ids H2 [] q.2 q.1.preds ∧ RngO q.1 ∧ (mk.1.kind = 0 → (next s mk.1.author mk.1.draft).2 = 0 ∧ q.1 = (next s mk.1.author mk.1.draft).1) ∧ (mk.1.kind ≠ 0 → q.1 = mk.1.op)) ?_ ?_
        · skip
          refine gc_seq ?_
          refine gc_seqr [(.mv, 0), (.mv, 1), (.mv, 2)] rfl ?_
          refine gr_rd rfl rfl rfl (rd_fieldAddr Tryd.fa78_0 rfl) ?_
          refine gr_rd rfl rfl rfl (rd_load1 Tryd.to3 rfl (Cells.own (l := encMakeV mk) (T := 78) (z := (0, 0)) (by simp [baseL])) (encMakeV_0 _)) ?_
          refine gr_rd rfl rfl rfl (rd_eql rfl rfl) ?_
          refine gr_nil ?_
          refine gk_then ?_
          refine gc_cond rfl (fun hc2 => ?_) (fun hc2 => ?_)
          · have hk0 : mk.1.kind = 0 := by simpa using hc2
            refine gc_seq ?_
            refine gc_seqr [(.mv, 0), (.mv, 1), (.mv, 2), (.mv, 3), (.mv, 4), (.nm, 5), (.mv, 6), (.mv, 7), (.mv, 8), (.nm, 9), (.nm, 10), (.mv, 11)] rfl ?_
            refine gr_rd rfl rfl rfl (rd_move rfl) ?_
            refine gr_rd rfl rfl rfl (rd_fieldAddr Tryd.fa78_1 rfl) ?_
            refine gr_rd rfl rfl rfl (rd_load1 Tryd.to3 rfl (Cells.own (l := encMakeV mk) (T := 78) (z := (0, 0)) (by simp [baseL])) (encMakeV_1 _)) ?_
            refine gr_rd rfl rfl rfl (rd_fieldAddr Tryd.fa78_2 rfl) ?_
            refine gr_rd rfl rfl rfl (rd_loadA Tryd.ta36 rfl (Cells.own (l := encMakeV mk) (T := 78) (z := (0, 0)) (by simp [baseL])) (encMakeV_seg_draft mk) (encDraft_length _)) ?_
            have hhl := heads_le s
            refine gr_nx rfl rfl rfl (nx_call Tryd.en27 rfl (rnext_cc _ _ (hS.view (T := 48) (z := (0, 0)) (by omega) (by simp) (by intro x hx; simp [hx]) (by intro x hx; simp [hx]) (by intro x hx; simp [hx]) (by intro x hx; simp [hx])) (by omega) mk.1.author mk.1.draft)) ?_; rintro v34 H' L' hle ⟨Cn, pn, rfl, hCn, rfl, rfl⟩; refine ⟨trivial, ?_⟩
            refine gr_rd rfl rfl rfl (rd_move rfl) ?_
            refine gr_rd rfl rfl rfl (rd_extract rfl rfl) ?_
            refine gr_rd rfl rfl rfl (rd_extract rfl rfl) ?_
            refine gr_nx rfl rfl rfl (nx_alloc Tryd.zeroValue38 rfl) ?_; rintro _ _ _ _ ⟨b8, rfl, rfl, rfl⟩; refine ⟨trivial, ?_⟩
            refine gr_nx0 rfl rfl (nx_store (vs := encOp (next s mk.1.author mk.1.draft).1 pn) Tryd.sizeOf38 rfl rfl rfl (encOp_length _ _) (by repeat (first | exact Upd.here | exact Upd.appl (by assumption) | apply Upd.there | apply Upd.app)) (by simp) (encOp_ones _ hCn.one)) ?_; rintro _ _ _ _ ⟨rfl, rfl, rfl⟩; refine ⟨trivial, ?_⟩
            rw [wr_all (by simp)]
            refine gr_rd rfl rfl rfl (rd_assign rfl) ?_
            refine gr_nil ?_
            refine gk_then ?_
            refine gc_seq ?_
            refine gc_seq ?_
            refine gc_seqr [(.mv, 0), (.mv, 1)] rfl ?_
            refine gr_rd rfl rfl rfl (rd_move rfl) ?_
            refine gr_rd rfl rfl rfl (rd_neq rfl rfl) ?_
            refine gr_nil ?_
            refine gk_then ?_
            refine gc_cond rfl (fun hc3 => ?_) (fun hc3 => ?_)
            · have hnx : (next s mk.1.author mk.1.draft).2 ≠ 0 := iN_t.1 hc3
              rw [madeGo_none (makeOp_bad hk0 hnx)] at hgo
              refine gc_exit ?_
              refine gk_exit_then ?_
              refine gk_exit_then ?_
              refine gk_here ?_
              refine gk_then ?_
              refine gc_seqr [(.mv, 0), (.mv, 1)] rfl ?_
              (first | refine gr_rd rfl rfl rfl (rd_add rfl rfl (IntWalk.i64_in _ (by omega))) ?_ | refine gr_rd rfl rfl rfl (rd_add rfl rfl rfl) ?_)
              refine gr_rd rfl rfl rfl (rd_move rfl) ?_
              refine gr_nil ?_
              first
                | (refine gk_drop (L' := ((b13, .cells [v0, v1, v2, v3].toArray 48 (0, 0)) :: (C0 ++ (C1 ++ (C2 ++ (C3 ++ (Co ++ L))))))) (by repeat (first | exact List.Sublist.refl _ | exact List.nil_sublist _ | apply List.Sublist.cons_cons | apply List.Sublist.cons | refine List.Sublist.trans ?_ (List.sublist_append_right _ _))) ?_
                   refine gk_round ⟨k + 1, s, ov, v0, v1, v2, v3, sv, sw, C0, C1, C2, C3, Co, (.slice Ao ov.length co)⟩ ?_ ⟨hH1, rfl, hS, hO, hov, by simp only; omega, by simp only; omega, by simp only; omega, by simp only; omega, hgo⟩ (by repeat (first | exact Subs.nil | refine Subs.cons rfl ?_))
                   show xs.length - (k + 1) < xs.length - k
                   omega)
                | (refine gk_perm (L' := ([(b124, .cells (encOpV (o, .slice aq o.preds.length cq)).toArray 38 (0, 0)), (b7, .cells (encOpV (o, .slice aq o.preds.length cq)).toArray 38 (0, 0)), (b6, .cells (encMakeV mk).toArray 78 (0, 0))] ++ Cr) ++ ((b13, .cells [w0, w1, w2, w3].toArray 48 (0, 0)) :: (D0 ++ (D1 ++ (D2 ++ (D3 ++ (Co2 ++ L))))))) (by haveI : DecidableEq (Nat × Obj) := fun _ _ => Classical.propDecidable _; rw [List.perm_iff_count]; intro a; simp only [List.count_append, List.count_cons, List.count_nil]; ac_rfl) ?_
                   refine gk_drop (L' := ((b13, .cells [w0, w1, w2, w3].toArray 48 (0, 0)) :: (D0 ++ (D1 ++ (D2 ++ (D3 ++ (Co2 ++ L))))))) (List.sublist_append_right _ _) ?_
                   refine gk_round ⟨k + 1, (take s o).1, ov ++ [(o, .slice aq o.preds.length cq)], w0, w1, w2, w3, sv', sw', D0, D1, D2, D3, Co2, v125⟩ ?_ ⟨hH1, rfl, hS3, by simpa [encOpV] using hO2, ?_, by simp only; omega, by simp only; omega, by simp only [List.length_append, List.length_cons, List.length_nil]; omega, by simp only; omega, ?_⟩ (by repeat (first | exact Subs.nil | refine Subs.cons rfl ?_))
                   · show xs.length - (k + 1) < xs.length - k
                     omega
                   · intro p hp
                     rcases List.mem_append.1 hp with hp | hp
                     · exact hov p hp
                     · rw [List.mem_singleton.1 hp]; exact ⟨hq, hfit⟩
                   · simpa using hgo)
            · have hnx : (next s mk.1.author mk.1.draft).2 = 0 := iN_f.1 hc3
              refine gc_skip ?_
              refine gk_then ?_
              refine gc_seqr [(.mv, 0), (.nm, 1)] rfl ?_
              refine gr_rd rfl rfl rfl (rd_loadA Tryd.ta38 rfl (Cells.own (l := encOp (next s mk.1.author mk.1.draft).1 pn) (T := 38) (z := (0, 0)) (by simp [baseL])) (Seg.all _) (encOp_length _ _)) ?_
              refine gr_nx0 rfl rfl (nx_store (vs := encOp (next s mk.1.author mk.1.draft).1 pn) Tryd.sizeOf38 rfl rfl rfl (encOp_length _ _) (by repeat (first | exact Upd.here | exact Upd.appl (by assumption) | apply Upd.there | apply Upd.app)) (by simp) (encOp_ones _ hCn.one)) ?_; rintro _ _ _ _ ⟨rfl, rfl, rfl⟩; refine ⟨trivial, ?_⟩
              rw [wr_all (by simp)]
              refine gr_nil ?_
              first
                | exact gk_cut (mk.1.op, mk.2) ⟨Gh.le_refl _, rfl, hmp, hmr.op, fun h => absurd h hk0, fun _ => rfl⟩ (by repeat (first | exact Subs.nil | refine Subs.cons rfl ?_))
                | (refine gk_perm (L' := Cn ++ ((b8, .cells (encOp (next s mk.1.author mk.1.draft).1 pn).toArray 38 (0, 0)) :: (b7, .cells (encOp (next s mk.1.author mk.1.draft).1 pn).toArray 38 (0, 0)) :: (b6, .cells (encMakeV mk).toArray 78 (0, 0)) :: ((b13, .cells [v0, v1, v2, v3].toArray 48 (0, 0)) :: (C0 ++ (C1 ++ (C2 ++ (C3 ++ (Co ++ L)))))))) (by haveI : DecidableEq (Nat × Obj) := fun _ _ => Classical.propDecidable _; rw [List.perm_iff_count]; intro a; simp only [List.count_append, List.count_cons, List.count_nil]; ac_rfl) ?_
                   refine gk_sealOw encId_length hCn rfl (by rw [next_ok hnx]; show (heads s).length < _; omega) (fun H2 hH2 hs => ?_)
                   refine gk_drop (L' := (b7, .cells (encOp (next s mk.1.author mk.1.draft).1 pn).toArray 38 (0, 0)) :: (b6, .cells (encMakeV mk).toArray 78 (0, 0)) :: ((b13, .cells [v0, v1, v2, v3].toArray 48 (0, 0)) :: (C0 ++ (C1 ++ (C2 ++ (C3 ++ (Co ++ L))))))) (List.sublist_cons_self _ _) ?_
                   exact gk_cut ((next s mk.1.author mk.1.draft).1, pn) ⟨hH2, rfl, hs, by rw [next_ok hnx]; exact ⟨hmr.draft, hmr.author, (wrap_range _).2⟩, fun _ => ⟨hnx, rfl⟩, fun h => absurd hk0 h⟩ (by repeat (first | exact Subs.nil | refine Subs.cons rfl ?_)))
          · have hk0 : mk.1.kind ≠ 0 := by simpa using hc2
            refine gc_skip ?_
            first
              | exact gk_cut (mk.1.op, mk.2) ⟨Gh.le_refl _, rfl, hmp, hmr.op, fun h => absurd h hk0, fun _ => rfl⟩ (by repeat (first | exact Subs.nil | refine Subs.cons rfl ?_))
              | (refine gk_perm (L' := Cn ++ ((b8, .cells (encOp (next s mk.1.author mk.1.draft).1 pn).toArray 38 (0, 0)) :: (b7, .cells (encOp (next s mk.1.author mk.1.draft).1 pn).toArray 38 (0, 0)) :: (b6, .cells (encMakeV mk).toArray 78 (0, 0)) :: ((b13, .cells [v0, v1, v2, v3].toArray 48 (0, 0)) :: (C0 ++ (C1 ++ (C2 ++ (C3 ++ (Co ++ L)))))))) (by haveI : DecidableEq (Nat × Obj) := fun _ _ => Classical.propDecidable _; rw [List.perm_iff_count]; intro a; simp only [List.count_append, List.count_cons, List.count_nil]; ac_rfl) ?_
                 refine gk_sealOw encId_length hCn rfl (by rw [next_ok hnx]; show (heads s).length < _; omega) (fun H2 hH2 hs => ?_)
                 refine gk_drop (L' := (b7, .cells (encOp (next s mk.1.author mk.1.draft).1 pn).toArray 38 (0, 0)) :: (b6, .cells (encMakeV mk).toArray 78 (0, 0)) :: ((b13, .cells [v0, v1, v2, v3].toArray 48 (0, 0)) :: (C0 ++ (C1 ++ (C2 ++ (C3 ++ (Co ++ L))))))) (List.sublist_cons_self _ _) ?_
                 exact gk_cut ((next s mk.1.author mk.1.draft).1, pn) ⟨hH2, rfl, hs, by rw [next_ok hnx]; exact ⟨hmr.draft, hmr.author, (wrap_range _).2⟩, fun _ => ⟨hnx, rfl⟩, fun h => absurd hk0 h⟩ (by repeat (first | exact Subs.nil | refine Subs.cons rfl ?_)))
        · rintro q H2 L2 ⟨hH12, rfl, hq, hrq, hk0, hkn⟩
          replace hS := hS.up hH12
          replace hov : ∀ p ∈ ov, Ids H2 [] p.2 p.1.preds ∧ FitO p.1 := fun p hp => ⟨(hov p hp).1.up hH12, (hov p hp).2⟩
          replace hmp := hmp.up hH12
          replace hH1 := Gh.le_trans hH1 hH12
          show GC _ _ _ _ [(3, pt b13 0), (4, (.slice Ao ov.length co)), (14, .slice A xs.length cv), (15, i64 xs.length), (16, i64 k), (6, pt b6 0), (7, pt b7 0)] H2 ((b7, .cells (encOpV q).toArray 38 (0, 0)) :: (b6, .cells (encMakeV mk).toArray 78 (0, 0)) :: ((b13, .cells [v0, v1, v2, v3].toArray 48 (0, 0)) :: (C0 ++ (C1 ++ (C2 ++ (C3 ++ (Co ++ L)))))))
          refine gc_cut (fun q : POp × Value => [(3, pt b13 0), (4, (.slice Ao ov.length co)), (14, .slice A xs.length cv), (15, i64 xs.length), (16, i64 k), (6, pt b6 0), (7, pt b7 0)]) (fun q H3 L3 => H2 ≤ H3 ∧ (b7, .cells (encOpV q).toArray 38 (0, 0)) :: (b6, .cells (encMakeV mk).toArray 78 (0, 0)) :: ((b13, .cells [v0, v1, v2, v3].toArray 48 (0, 0)) :: (C0 ++ (C1 ++ (C2 ++ (C3 ++ (Co ++ L)))))) = L3 ∧ Ids H3 [] q.2 q.1.preds ∧ RngO q.1 ∧ makeOp s (ov.map (·.1)) mk.1 = some q.1) ?_ ?_
          · skip
            refine gc_seq ?_
            refine gc_seqr [(.mv, 0), (.mv, 1), (.mv, 2), (.mv, 3), (.mv, 4), (.mv, 5), (.mv, 6), (.mv, 7)] rfl ?_
            refine gr_rd rfl rfl rfl (rd_fieldAddr Tryd.fa78_0 rfl) ?_
            refine gr_rd rfl rfl rfl (rd_load1 Tryd.to3 rfl (Cells.own (l := encMakeV mk) (T := 78) (z := (0, 0)) (by simp [baseL])) (encMakeV_0 _)) ?_
            refine gr_rd rfl rfl rfl (rd_eql rfl rfl) ?_
            refine gr_rd rfl rfl rfl (rd_move rfl) ?_
            refine gr_split rfl (fun hg3 => ?_) (fun hg3 => ?_)
            · skip
              refine gr_rd rfl rfl rfl (rd_move rfl) ?_
              refine gr_rd rfl rfl rfl (rd_lenS Tryd.underlying25 rfl) ?_
              refine gr_rd rfl rfl rfl (rd_gtr rfl rfl) ?_
              (first | refine gr_rd rfl rfl rfl (rd_pick_t rfl rfl) ?_ | refine gr_rd rfl rfl rfl (rd_pick_f rfl rfl) ?_)
              refine gr_nil ?_
              refine gk_then ?_
              refine gc_cond rfl (fun hc4 => ?_) (fun hc4 => ?_)
              · have hk1 : mk.1.kind = 1 := by simpa using hg3
                have hpos : 0 < ov.length := by have := of_decide_eq_true hc4; omega
                have hp1 := pick_lt mk.1.at_ hpos
                have hp2 := pick_lt mk.1.other hpos
                obtain ⟨pa, hpa⟩ : ∃ pa, ov[pickAt mk.1.at_ ov.length]? = some pa := ⟨_, List.getElem?_eq_getElem hp1⟩
                obtain ⟨pb, hpb⟩ : ∃ pb, ov[pickAt mk.1.other ov.length]? = some pb := ⟨_, List.getElem?_eq_getElem hp2⟩
                obtain ⟨hpa1, hpa2⟩ := hov pa (List.mem_of_getElem? hpa)
                obtain ⟨hpb1, hpb2⟩ := hov pb (List.mem_of_getElem? hpb)
                have hOT : SlT encOpV 38 H2 ((b7, .cells (encOpV q).toArray 38 (0, 0)) :: (b6, .cells (encMakeV mk).toArray 78 (0, 0)) :: ((b13, .cells [v0, v1, v2, v3].toArray 48 (0, 0)) :: (C0 ++ (C1 ++ (C2 ++ (C3 ++ (Co ++ L))))))) (.slice Ao ov.length co) ov := Ow.slT encOpV_length hO rfl (by omega) (by intro x hx; simp [hx])
                obtain ⟨_, bo2, of2, co2, lo2, he2, hco2, hno2, ho0, ho1, ho2⟩ := hOT
                cases he2
                obtain ⟨hAo, hcA, hsA⟩ := slt_at (i := ((pickAt mk.1.at_ ov.length : Nat) : Int)) ho1 ho2 hpa rfl
                obtain ⟨_, hcB, hsB⟩ := slt_at (i := ((pickAt mk.1.other ov.length : Nat) : Int)) ho1 ho2 hpb rfl
                have hmo : makeOp s (ov.map (·.1)) mk.1 = some (byTwo mk.1 pa.1 pb.1) := by
                  have e1 : (ov.map (·.1)).length = ov.length := by simp
                  rw [makeOp_two hk1 (by rw [e1]; exact hpos), e1, getD_map hp1, getD_map hp2]
                  rw [List.getElem?_eq_getElem hp1] at hpa
                  rw [List.getElem?_eq_getElem hp2] at hpb
                  rw [Option.some.inj hpa, Option.some.inj hpb]
                refine gc_cut (fun r : Nat × Nat => [(3, pt b13 0), (4, (.slice Ao ov.length co)), (14, .slice A xs.length cv), (15, i64 xs.length), (16, i64 k), (6, pt b6 0), (7, pt b7 0), (10, pt r.1 0), (11, pt r.2 0)]) (fun r H3 L3 => H2 = H3 ∧ (r.1, .cells (encOpV pa).toArray 38 (0, 0)) :: (r.2, .cells (encOpV pb).toArray 38 (0, 0)) :: (b7, .cells (encOpV q).toArray 38 (0, 0)) :: (b6, .cells (encMakeV mk).toArray 78 (0, 0)) :: ((b13, .cells [v0, v1, v2, v3].toArray 48 (0, 0)) :: (C0 ++ (C1 ++ (C2 ++ (C3 ++ (Co ++ L)))))) = L3) ?_ ?_
                · skip
                  refine gc_draw2 Tryd.mixed [(.mv, 0), (.mv, 1), (.mv, 2), (.mv, 3), (.mv, 4), (.mv, 5), (.mv, 6), (.mv, 7), (.mv, 8), (.mv, 9), (.mv, 10), (.mv, 11), (.mv, 12), (.mv, 13), (.mv, 14), (.mv, 15), (.mv, 16), (.mv, 17), (.mv, 18), (.mv, 19), (.mv, 20), (.mv, 21)] 22 23 [(.nm, 24), (.fin, 25)] (by decide +kernel) _ (List.Sublist.refl _) ?_ ?_
                  · skip
                    show GR _ _ _ _ _ _ [(.mv, 0), (.mv, 1), (.mv, 2), (.mv, 3), (.mv, 4), (.mv, 5), (.mv, 6), (.mv, 7), (.mv, 8), (.mv, 9), (.mv, 10), (.mv, 11), (.mv, 12), (.mv, 13), (.mv, 14), (.mv, 15), (.mv, 16), (.mv, 17), (.mv, 18), (.mv, 19), (.mv, 20), (.mv, 21), (.nm, 22), (.nm, 23), (.nm, 24), (.fin, 25)] _ _
                    refine gr_rd rfl rfl rfl (rd_move rfl) ?_
                    refine gr_rd rfl rfl rfl (rd_fieldAddr Tryd.fa78_3 rfl) ?_
                    refine gr_rd rfl rfl rfl (rd_load1 Tryd.to3 rfl (Cells.own (l := encMakeV mk) (T := 78) (z := (0, 0)) (by simp [baseL])) (encMakeV_37 _)) ?_
                    (first | refine gr_rd rfl rfl rfl (rd_convInt Tryd.underlying3 Tryd.underlying39 rfl (IntWalk.u64_in _ (by omega))) ?_ | refine gr_rd rfl rfl rfl (rd_convInt Tryd.underlying3 Tryd.underlying39 rfl rfl) ?_)
                    refine gr_rd rfl rfl rfl (rd_move rfl) ?_
                    refine gr_rd rfl rfl rfl (rd_lenS Tryd.underlying25 rfl) ?_
                    (first | refine gr_rd rfl rfl rfl (rd_convInt Tryd.underlying3 Tryd.underlying39 rfl (IntWalk.u64_in _ (by omega))) ?_ | refine gr_rd rfl rfl rfl (rd_convInt Tryd.underlying3 Tryd.underlying39 rfl rfl) ?_)
                    refine gr_rd rfl rfl rfl (rd_rem rfl rfl (by omega) rfl) ?_
                    refine gr_rd rfl rfl rfl (rd_convInt Tryd.underlying39 Tryd.underlying3 rfl (pick_wrap _ hpos (by omega))) ?_
                    refine gr_rd rfl rfl rfl (rd_indexS Tryd.underlying25 Tryd.sizeOf38 rfl rfl hAo (by omega) (by omega)) ?_
                    refine gr_rd rfl rfl rfl (rd_loadA Tryd.ta38 rfl hcA hsA (encOpV_length _)) ?_
                    refine gr_rd rfl rfl rfl (rd_move rfl) ?_
                    refine gr_rd rfl rfl rfl (rd_fieldAddr Tryd.fa78_4 rfl) ?_
                    refine gr_rd rfl rfl rfl (rd_load1 Tryd.to3 rfl (Cells.own (l := encMakeV mk) (T := 78) (z := (0, 0)) (by simp [baseL])) (encMakeV_38 _)) ?_
                    (first | refine gr_rd rfl rfl rfl (rd_convInt Tryd.underlying3 Tryd.underlying39 rfl (IntWalk.u64_in _ (by omega))) ?_ | refine gr_rd rfl rfl rfl (rd_convInt Tryd.underlying3 Tryd.underlying39 rfl rfl) ?_)
                    refine gr_rd rfl rfl rfl (rd_move rfl) ?_
                    refine gr_rd rfl rfl rfl (rd_lenS Tryd.underlying25 rfl) ?_
                    (first | refine gr_rd rfl rfl rfl (rd_convInt Tryd.underlying3 Tryd.underlying39 rfl (IntWalk.u64_in _ (by omega))) ?_ | refine gr_rd rfl rfl rfl (rd_convInt Tryd.underlying3 Tryd.underlying39 rfl rfl) ?_)
                    refine gr_rd rfl rfl rfl (rd_rem rfl rfl (by omega) rfl) ?_
                    refine gr_rd rfl rfl rfl (rd_convInt Tryd.underlying39 Tryd.underlying3 rfl (pick_wrap _ hpos (by omega))) ?_
                    refine gr_rd rfl rfl rfl (rd_indexS Tryd.underlying25 Tryd.sizeOf38 rfl rfl hAo (by omega) (by omega)) ?_
                    refine gr_rd rfl rfl rfl (rd_loadA Tryd.ta38 rfl hcB hsB (encOpV_length _)) ?_
                    refine gr_nx rfl rfl rfl (nx_alloc Tryd.zeroValue38 rfl) ?_; rintro _ _ _ _ ⟨b10, rfl, rfl, rfl⟩; refine ⟨⟨(by first | exact Gh.le_refl _ | assumption | exact Gh.le_trans (by assumption) (by assumption)), (by repeat (first | exact List.Sublist.refl _ | exact List.nil_sublist _ | apply List.Sublist.cons_cons | apply List.Sublist.cons | apply List.Sublist.append (List.Sublist.refl _) | refine List.Sublist.trans ?_ (List.sublist_append_right _ _)))⟩, ?_⟩
                    refine gr_nx rfl rfl rfl (nx_alloc Tryd.zeroValue38 rfl) ?_; rintro _ _ _ _ ⟨b11, rfl, rfl, rfl⟩; refine ⟨⟨(by first | exact Gh.le_refl _ | assumption | exact Gh.le_trans (by assumption) (by assumption)), (by repeat (first | exact List.Sublist.refl _ | exact List.nil_sublist _ | apply List.Sublist.cons_cons | apply List.Sublist.cons | apply List.Sublist.append (List.Sublist.refl _) | refine List.Sublist.trans ?_ (List.sublist_append_right _ _)))⟩, ?_⟩
                    refine gr_nx0 rfl rfl (nx_store (vs := encOpV pa) Tryd.sizeOf38 rfl rfl rfl (encOpV_length _) (by repeat (first | exact Upd.here | exact Upd.appl (by assumption) | apply Upd.there | apply Upd.app)) (by simp) (encOp_ones _ hpa1.one)) ?_; rintro _ _ _ _ ⟨rfl, rfl, rfl⟩; refine ⟨⟨(by first | exact Gh.le_refl _ | assumption | exact Gh.le_trans (by assumption) (by assumption)), (by repeat (first | exact List.Sublist.refl _ | exact List.nil_sublist _ | apply List.Sublist.cons_cons | apply List.Sublist.cons | apply List.Sublist.append (List.Sublist.refl _) | refine List.Sublist.trans ?_ (List.sublist_append_right _ _)))⟩, ?_⟩
                    rw [wr_all (by simp)]
                    refine gr_fin0 rfl rfl (nx_store (vs := encOpV pb) Tryd.sizeOf38 rfl rfl rfl (encOpV_length _) (by repeat (first | exact Upd.here | exact Upd.appl (by assumption) | apply Upd.there | apply Upd.app)) (by simp) (encOp_ones _ hpb1.one)) ?_; rintro _ _ _ _ ⟨rfl, rfl, rfl⟩
                    rw [wr_all (by simp)]
                    refine gr_nil ?_
                    first | exact gk_cut (b10, b11) ⟨rfl, rfl⟩ (by repeat (first | exact Subs.nil | refine Subs.cons rfl ?_)) | exact gk_perm (List.Perm.swap _ _ _) (gk_cut (b10, b11) ⟨rfl, rfl⟩ (by repeat (first | exact Subs.nil | refine Subs.cons rfl ?_)))
                  · skip
                    show GR _ _ _ _ _ _ [(.mv, 0), (.mv, 1), (.mv, 2), (.mv, 3), (.mv, 4), (.mv, 5), (.mv, 6), (.mv, 7), (.mv, 8), (.mv, 9), (.mv, 10), (.mv, 11), (.mv, 12), (.mv, 13), (.mv, 14), (.mv, 15), (.mv, 16), (.mv, 17), (.mv, 18), (.mv, 19), (.mv, 20), (.mv, 21), (.nm, 23), (.nm, 22), (.nm, 24), (.fin, 25)] _ _
                    refine gr_rd rfl rfl rfl (rd_move rfl) ?_
                    refine gr_rd rfl rfl rfl (rd_fieldAddr Tryd.fa78_3 rfl) ?_
                    refine gr_rd rfl rfl rfl (rd_load1 Tryd.to3 rfl (Cells.own (l := encMakeV mk) (T := 78) (z := (0, 0)) (by simp [baseL])) (encMakeV_37 _)) ?_
                    (first | refine gr_rd rfl rfl rfl (rd_convInt Tryd.underlying3 Tryd.underlying39 rfl (IntWalk.u64_in _ (by omega))) ?_ | refine gr_rd rfl rfl rfl (rd_convInt Tryd.underlying3 Tryd.underlying39 rfl rfl) ?_)
                    refine gr_rd rfl rfl rfl (rd_move rfl) ?_
                    refine gr_rd rfl rfl rfl (rd_lenS Tryd.underlying25 rfl) ?_
                    (first | refine gr_rd rfl rfl rfl (rd_convInt Tryd.underlying3 Tryd.underlying39 rfl (IntWalk.u64_in _ (by omega))) ?_ | refine gr_rd rfl rfl rfl (rd_convInt Tryd.underlying3 Tryd.underlying39 rfl rfl) ?_)
                    refine gr_rd rfl rfl rfl (rd_rem rfl rfl (by omega) rfl) ?_
                    refine gr_rd rfl rfl rfl (rd_convInt Tryd.underlying39 Tryd.underlying3 rfl (pick_wrap _ hpos (by omega))) ?_
                    refine gr_rd rfl rfl rfl (rd_indexS Tryd.underlying25 Tryd.sizeOf38 rfl rfl hAo (by omega) (by omega)) ?_
                    refine gr_rd rfl rfl rfl (rd_loadA Tryd.ta38 rfl hcA hsA (encOpV_length _)) ?_
                    refine gr_rd rfl rfl rfl (rd_move rfl) ?_
                    refine gr_rd rfl rfl rfl (rd_fieldAddr Tryd.fa78_4 rfl) ?_
                    refine gr_rd rfl rfl rfl (rd_load1 Tryd.to3 rfl (Cells.own (l := encMakeV mk) (T := 78) (z := (0, 0)) (by simp [baseL])) (encMakeV_38 _)) ?_
                    (first | refine gr_rd rfl rfl rfl (rd_convInt Tryd.underlying3 Tryd.underlying39 rfl (IntWalk.u64_in _ (by omega))) ?_ | refine gr_rd rfl rfl rfl (rd_convInt Tryd.underlying3 Tryd.underlying39 rfl rfl) ?_)
                    refine gr_rd rfl rfl rfl (rd_move rfl) ?_
                    refine gr_rd rfl rfl rfl (rd_lenS Tryd.underlying25 rfl) ?_
                    (first | refine gr_rd rfl rfl rfl (rd_convInt Tryd.underlying3 Tryd.underlying39 rfl (IntWalk.u64_in _ (by omega))) ?_ | refine gr_rd rfl rfl rfl (rd_convInt Tryd.underlying3 Tryd.underlying39 rfl rfl) ?_)
                    refine gr_rd rfl rfl rfl (rd_rem rfl rfl (by omega) rfl) ?_
                    refine gr_rd rfl rfl rfl (rd_convInt Tryd.underlying39 Tryd.underlying3 rfl (pick_wrap _ hpos (by omega))) ?_
                    refine gr_rd rfl rfl rfl (rd_indexS Tryd.underlying25 Tryd.sizeOf38 rfl rfl hAo (by omega) (by omega)) ?_
                    refine gr_rd rfl rfl rfl (rd_loadA Tryd.ta38 rfl hcB hsB (encOpV_length _)) ?_
                    refine gr_nx rfl rfl rfl (nx_alloc Tryd.zeroValue38 rfl) ?_; rintro _ _ _ _ ⟨b11, rfl, rfl, rfl⟩; refine ⟨⟨(by first | exact Gh.le_refl _ | assumption | exact Gh.le_trans (by assumption) (by assumption)), (by repeat (first | exact List.Sublist.refl _ | exact List.nil_sublist _ | apply List.Sublist.cons_cons | apply List.Sublist.cons | apply List.Sublist.append (List.Sublist.refl _) | refine List.Sublist.trans ?_ (List.sublist_append_right _ _)))⟩, ?_⟩
                    refine gr_nx rfl rfl rfl (nx_alloc Tryd.zeroValue38 rfl) ?_; rintro _ _ _ _ ⟨b10, rfl, rfl, rfl⟩; refine ⟨⟨(by first | exact Gh.le_refl _ | assumption | exact Gh.le_trans (by assumption) (by assumption)), (by repeat (first | exact List.Sublist.refl _ | exact List.nil_sublist _ | apply List.Sublist.cons_cons | apply List.Sublist.cons | apply List.Sublist.append (List.Sublist.refl _) | refine List.Sublist.trans ?_ (List.sublist_append_right _ _)))⟩, ?_⟩
                    refine gr_nx0 rfl rfl (nx_store (vs := encOpV pa) Tryd.sizeOf38 rfl rfl rfl (encOpV_length _) (by repeat (first | exact Upd.here | exact Upd.appl (by assumption) | apply Upd.there | apply Upd.app)) (by simp) (encOp_ones _ hpa1.one)) ?_; rintro _ _ _ _ ⟨rfl, rfl, rfl⟩; refine ⟨⟨(by first | exact Gh.le_refl _ | assumption | exact Gh.le_trans (by assumption) (by assumption)), (by repeat (first | exact List.Sublist.refl _ | exact List.nil_sublist _ | apply List.Sublist.cons_cons | apply List.Sublist.cons | apply List.Sublist.append (List.Sublist.refl _) | refine List.Sublist.trans ?_ (List.sublist_append_right _ _)))⟩, ?_⟩
                    rw [wr_all (by simp)]
                    refine gr_fin0 rfl rfl (nx_store (vs := encOpV pb) Tryd.sizeOf38 rfl rfl rfl (encOpV_length _) (by repeat (first | exact Upd.here | exact Upd.appl (by assumption) | apply Upd.there | apply Upd.app)) (by simp) (encOp_ones _ hpb1.one)) ?_; rintro _ _ _ _ ⟨rfl, rfl, rfl⟩
                    rw [wr_all (by simp)]
                    refine gr_nil ?_
                    first | exact gk_cut (b10, b11) ⟨rfl, rfl⟩ (by repeat (first | exact Subs.nil | refine Subs.cons rfl ?_)) | exact gk_perm (List.Perm.swap _ _ _) (gk_cut (b10, b11) ⟨rfl, rfl⟩ (by repeat (first | exact Subs.nil | refine Subs.cons rfl ?_)))
                · rintro ⟨b10, b11⟩ H3 L3 ⟨rfl, rfl⟩
                  show GC _ _ _ _ [(3, pt b13 0), (4, (.slice Ao ov.length co)), (14, .slice A xs.length cv), (15, i64 xs.length), (16, i64 k), (6, pt b6 0), (7, pt b7 0), (10, pt b10 0), (11, pt b11 0)] H2 ((b10, .cells (encOpV pa).toArray 38 (0, 0)) :: (b11, .cells (encOpV pb).toArray 38 (0, 0)) :: (b7, .cells (encOpV q).toArray 38 (0, 0)) :: (b6, .cells (encMakeV mk).toArray 78 (0, 0)) :: ((b13, .cells [v0, v1, v2, v3].toArray 48 (0, 0)) :: (C0 ++ (C1 ++ (C2 ++ (C3 ++ (Co ++ L)))))))
                  refine gc_seq ?_
                  refine gc_draw Tryd.mixed [(.mv, 0), (.mv, 1), (.mv, 2), (.mv, 3), (.mv, 4), (.nm, 5), (.nm, 6), (.nm, 7), (.mv, 8), (.fin, 9)] (by decide +kernel) _ (List.Sublist.refl _) ?_
                  refine gr_rd rfl rfl rfl (rd_fieldAddr Tryd.fa78_2 rfl) ?_
                  refine gr_rd rfl rfl rfl (rd_loadA Tryd.ta36 rfl (Cells.own (l := encMakeV mk) (T := 78) (z := (0, 0)) (by simp [baseL])) (encMakeV_seg_draft mk) (encDraft_length _)) ?_
                  refine gr_rd rfl rfl rfl (rd_fieldAddr Tryd.fa78_1 rfl) ?_
                  refine gr_rd rfl rfl rfl (rd_load1 Tryd.to3 rfl (Cells.own (l := encMakeV mk) (T := 78) (z := (0, 0)) (by simp [baseL])) (encMakeV_1 _)) ?_
                  refine gr_rd rfl rfl rfl (rd_loadA Tryd.ta38 rfl (Cells.own (l := encOpV pa) (T := 38) (z := (0, 0)) (by simp [baseL])) (Seg.all _) (encOpV_length _)) ?_
                  refine gr_nx rfl rfl rfl (nx_call Tryd.en16 rfl (rname_cc _ _ pa.1 pa.2 hpa1.any hpa2.small)) ?_; rintro v75 H' L' hle ⟨rfl, rfl, rfl⟩; refine ⟨⟨(by first | exact Gh.le_refl _ | assumption | exact Gh.le_trans (by assumption) (by assumption)), (by repeat (first | exact List.Sublist.refl _ | exact List.nil_sublist _ | apply List.Sublist.cons_cons | apply List.Sublist.cons | apply List.Sublist.append (List.Sublist.refl _) | refine List.Sublist.trans ?_ (List.sublist_append_right _ _)))⟩, ?_⟩
                  refine gr_nx rfl rfl rfl (nx_sliceA1 Tryd.underlying29 Tryd.sizeOf34 Tryd.zeroValue34 rfl rfl rfl (by first | exact encId_length _ | exact encOp_length _ _ | exact encDraft_length _ | rfl | simp) rfl) ?_; rintro _ _ _ _ ⟨b76, rfl, rfl, rfl⟩; refine ⟨⟨(by first | exact Gh.le_refl _ | assumption | exact Gh.le_trans (by assumption) (by assumption)), (by repeat (first | exact List.Sublist.refl _ | exact List.nil_sublist _ | apply List.Sublist.cons_cons | apply List.Sublist.cons | apply List.Sublist.append (List.Sublist.refl _) | refine List.Sublist.trans ?_ (List.sublist_append_right _ _)))⟩, ?_⟩
                  refine gr_nx rfl rfl rfl (nx_call Tryd.en41 rfl (rising_cc _ _ _ [nameOf pa.1] (Ow.slT (xs := [nameOf pa.1]) encId_length (by simpa using Ow.new (b := b76) (e := 34) (k := 32) (n := 1) (cs := encId (nameOf pa.1)) (by simp)) rfl (by simp) (fun x hx => List.mem_cons.2 (.inl (List.mem_singleton.1 hx)))) (by simp))) ?_; rintro v77 H' L' hle ⟨C7, hO7, rfl, rfl⟩; refine ⟨⟨(by first | exact Gh.le_refl _ | assumption | exact Gh.le_trans (by assumption) (by assumption)), (by repeat (first | exact List.Sublist.refl _ | exact List.nil_sublist _ | apply List.Sublist.cons_cons | apply List.Sublist.cons | apply List.Sublist.append (List.Sublist.refl _) | refine List.Sublist.trans ?_ (List.sublist_append_right _ _)))⟩, ?_⟩
                  obtain ⟨a7, c7, rfl, hc7⟩ := hO7.slice
                  refine gr_rd rfl rfl rfl (rd_build Tryd.bt38 (ps := [(0, ag (encDraft mk.1.draft)), (1, i64 mk.1.author), (3, (.slice a7 (rising [nameOf pa.1]).length c7))]) rfl (fill_op3 (ps := rising [nameOf pa.1]) rfl)) ?_
                  refine gr_fin0 rfl rfl (nx_store (vs := encOp ⟨mk.1.draft, mk.1.author, 0, rising [nameOf pa.1]⟩ (.slice a7 (rising [nameOf pa.1]).length c7)) Tryd.sizeOf38 rfl rfl rfl (encOp_length _ _) (by repeat (first | exact Upd.here | exact Upd.appl (by assumption) | apply Upd.there | apply Upd.app)) (by simp) (encOp_ones _ rfl)) ?_; rintro _ _ _ _ ⟨rfl, rfl, rfl⟩
                  rw [wr_all (by simp)]
                  refine gr_perm (L' := [(b76, .cells (encId (nameOf pa.1)).toArray 34 (0, 0))] ++ ((b7, .cells (encOp ⟨mk.1.draft, mk.1.author, 0, rising [nameOf pa.1]⟩ (.slice a7 (rising [nameOf pa.1]).length c7)).toArray 38 (0, 0)) :: (b10, .cells (encOpV pa).toArray 38 (0, 0)) :: (b11, .cells (encOpV pb).toArray 38 (0, 0)) :: (C7 ++ ((b6, .cells (encMakeV mk).toArray 78 (0, 0)) :: ((b13, .cells [v0, v1, v2, v3].toArray 48 (0, 0)) :: (C0 ++ (C1 ++ (C2 ++ (C3 ++ (Co ++ L)))))))))) (by haveI : DecidableEq (Nat × Obj) := fun _ _ => Classical.propDecidable _; rw [List.perm_iff_count]; intro a; simp only [List.count_append, List.count_cons, List.count_nil]; ac_rfl) ?_
                  refine gr_drop (L' := (b7, .cells (encOp ⟨mk.1.draft, mk.1.author, 0, rising [nameOf pa.1]⟩ (.slice a7 (rising [nameOf pa.1]).length c7)).toArray 38 (0, 0)) :: (b10, .cells (encOpV pa).toArray 38 (0, 0)) :: (b11, .cells (encOpV pb).toArray 38 (0, 0)) :: (C7 ++ ((b6, .cells (encMakeV mk).toArray 78 (0, 0)) :: ((b13, .cells [v0, v1, v2, v3].toArray 48 (0, 0)) :: (C0 ++ (C1 ++ (C2 ++ (C3 ++ (Co ++ L))))))))) (List.sublist_append_right _ _) ?_
                  refine gr_nil ?_
                  refine gk_then ?_
                  refine gc_cut (fun r : List Nm × Value × Chunks => [(3, pt b13 0), (4, (.slice Ao ov.length co)), (14, .slice A xs.length cv), (15, i64 xs.length), (16, i64 k), (6, pt b6 0), (7, pt b7 0), (10, pt b10 0), (11, pt b11 0)]) (fun r H3 L3 => H2 = H3 ∧ (b7, .cells (encOp ⟨mk.1.draft, mk.1.author, 0, r.1⟩ r.2.1).toArray 38 (0, 0)) :: (b10, .cells (encOpV pa).toArray 38 (0, 0)) :: (b11, .cells (encOpV pb).toArray 38 (0, 0)) :: (r.2.2 ++ ((b6, .cells (encMakeV mk).toArray 78 (0, 0)) :: ((b13, .cells [v0, v1, v2, v3].toArray 48 (0, 0)) :: (C0 ++ (C1 ++ (C2 ++ (C3 ++ (Co ++ L)))))))) = L3 ∧ Ow 34 32 r.2.2 r.2.1 r.1.length (r.1.flatMap encId) ∧ r.1 = (if pa.1 = pb.1 then rising [nameOf pa.1] else rising [nameOf pa.1, nameOf pb.1]) ∧ r.1.length ≤ 2) ?_ ?_
                  · skip
                    refine gc_seq ?_
                    refine gc_seqr [(.mv, 0), (.mv, 1), (.nm, 2), (.mv, 3)] rfl ?_
                    refine gr_rd rfl rfl rfl (rd_loadA Tryd.ta38 rfl (Cells.own (l := encOpV pa) (T := 38) (z := (0, 0)) (by simp [baseL])) (Seg.all _) (encOpV_length _)) ?_
                    refine gr_rd rfl rfl rfl (rd_loadA Tryd.ta38 rfl (Cells.own (l := encOpV pb) (T := 38) (z := (0, 0)) (by simp [baseL])) (Seg.all _) (encOpV_length _)) ?_
                    refine gr_nx rfl rfl rfl (nx_call Tryd.en20 rfl (same_cc _ _ pa.1 pb.1 pa.2 pb.2 hpa1.any hpb1.any)) ?_; rintro v81 H' L' hle ⟨rfl, rfl, rfl⟩; refine ⟨trivial, ?_⟩
                    refine gr_rd rfl rfl rfl (rd_not rfl) ?_
                    refine gr_nil ?_
                    refine gk_then ?_
                    refine gc_cond rfl (fun hcR15 => ?_) (fun hcR15 => ?_)
                    · skip
                      refine gc_draw Tryd.mixed [(.mv, 0), (.mv, 2), (.nm, 1), (.fin, 3), (.fin, 4), (.fin, 5), (.fin, 6), (.fin, 7)] (by decide +kernel) _ (List.Sublist.refl _) ?_
                      refine gr_rd rfl rfl rfl (rd_loadA Tryd.ta38 rfl (Cells.own (l := encOpV pa) (T := 38) (z := (0, 0)) (by simp [baseL])) (Seg.all _) (encOpV_length _)) ?_
                      refine gr_rd rfl rfl rfl (rd_loadA Tryd.ta38 rfl (Cells.own (l := encOpV pb) (T := 38) (z := (0, 0)) (by simp [baseL])) (Seg.all _) (encOpV_length _)) ?_
                      refine gr_nx rfl rfl rfl (nx_call Tryd.en16 rfl (rname_cc _ _ pa.1 pa.2 hpa1.any hpa2.small)) ?_; rintro v84 H' L' hle ⟨rfl, rfl, rfl⟩; refine ⟨⟨(by first | exact Gh.le_refl _ | assumption | exact Gh.le_trans (by assumption) (by assumption)), (by repeat (first | exact List.Sublist.refl _ | exact List.nil_sublist _ | apply List.Sublist.cons_cons | apply List.Sublist.cons | apply List.Sublist.append (List.Sublist.refl _) | refine List.Sublist.trans ?_ (List.sublist_append_right _ _)))⟩, ?_⟩
                      refine gr_fin rfl rfl rfl (nx_call Tryd.en16 rfl (rname_cc _ _ pb.1 pb.2 hpb1.any hpb2.small)) ?_; rintro v86 H' L' hle ⟨rfl, rfl, rfl⟩
                      refine gr_fin rfl rfl rfl (nx_sliceA2 Tryd.underlying29 Tryd.sizeOf34 Tryd.zeroValue34 rfl rfl rfl (by first | exact encId_length _ | exact encOp_length _ _ | exact encDraft_length _ | rfl | simp) (by first | exact encId_length _ | exact encOp_length _ _ | exact encDraft_length _ | rfl | simp) rfl) ?_; rintro _ _ _ _ ⟨b87, rfl, rfl, rfl⟩
                      refine gr_fin rfl rfl rfl (nx_call Tryd.en41 rfl (rising_cc _ _ _ [nameOf pa.1, nameOf pb.1] (Ow.slT (xs := [nameOf pa.1, nameOf pb.1]) encId_length (by simpa using Ow.new (b := b87) (e := 34) (k := 32) (n := 2) (cs := encId (nameOf pa.1) ++ encId (nameOf pb.1)) (by simp)) rfl (by simp) (fun x hx => List.mem_cons.2 (.inl (List.mem_singleton.1 hx)))) (by simp))) ?_; rintro v88 H' L' hle ⟨C8, hO8, rfl, rfl⟩
                      refine gr_fin rfl rfl rfl (Rd.nx (rd_fieldAddr Tryd.fa38_3 rfl)) ?_; rintro _ _ _ _ ⟨rfl, rfl, rfl⟩
                      refine gr_fin0 rfl rfl (nx_store (vs := [v88]) Tryd.sizeOf29 rfl rfl (cells1 (Ow.one hO8)) rfl (by repeat (first | exact Upd.here | exact Upd.appl (by assumption) | apply Upd.there | apply Upd.app)) (by simp) (oneCells_cons (Ow.one hO8) oneCells_nil)) ?_; rintro _ _ _ _ ⟨rfl, rfl, rfl⟩
                      rw [encOp_set_preds _ _ _ (rising [nameOf pa.1, nameOf pb.1])]
                      refine gr_nil ?_
                      first
                        | exact gk_cut (rising [nameOf pa.1], (.slice a7 (rising [nameOf pa.1]).length c7), C7) ⟨rfl, rfl, hO7, by rw [if_pos (by simpa using hcR15)], by rw [rising_length]; show 1 ≤ 2; decide⟩ (by repeat (first | exact Subs.nil | refine Subs.cons rfl ?_))
                        | (refine gk_perm (L' := ([(b87, .cells (encId (nameOf pa.1) ++ encId (nameOf pb.1)).toArray 34 (0, 0))] ++ C7) ++ ((b7, .cells (encOp ⟨mk.1.draft, mk.1.author, 0, rising [nameOf pa.1, nameOf pb.1]⟩ v88).toArray 38 (0, 0)) :: (b10, .cells (encOpV pa).toArray 38 (0, 0)) :: (b11, .cells (encOpV pb).toArray 38 (0, 0)) :: (C8 ++ ((b6, .cells (encMakeV mk).toArray 78 (0, 0)) :: ((b13, .cells [v0, v1, v2, v3].toArray 48 (0, 0)) :: (C0 ++ (C1 ++ (C2 ++ (C3 ++ (Co ++ L)))))))))) (by haveI : DecidableEq (Nat × Obj) := fun _ _ => Classical.propDecidable _; rw [List.perm_iff_count]; intro a; simp only [List.count_append, List.count_cons, List.count_nil]; ac_rfl) ?_
                           refine gk_drop (L' := (b7, .cells (encOp ⟨mk.1.draft, mk.1.author, 0, rising [nameOf pa.1, nameOf pb.1]⟩ v88).toArray 38 (0, 0)) :: (b10, .cells (encOpV pa).toArray 38 (0, 0)) :: (b11, .cells (encOpV pb).toArray 38 (0, 0)) :: (C8 ++ ((b6, .cells (encMakeV mk).toArray 78 (0, 0)) :: ((b13, .cells [v0, v1, v2, v3].toArray 48 (0, 0)) :: (C0 ++ (C1 ++ (C2 ++ (C3 ++ (Co ++ L))))))))) (List.sublist_append_right _ _) ?_
                           exact gk_cut (rising [nameOf pa.1, nameOf pb.1], v88, C8) ⟨rfl, rfl, hO8, by rw [if_neg (by simpa using hcR15)], Nat.le_of_eq (rising_len2 _ _)⟩ (by repeat (first | exact Subs.nil | refine Subs.cons rfl ?_)))
                    · skip
                      refine gc_skip ?_
                      first
                        | exact gk_cut (rising [nameOf pa.1], (.slice a7 (rising [nameOf pa.1]).length c7), C7) ⟨rfl, rfl, hO7, by rw [if_pos (by simpa using hcR15)], by rw [rising_length]; show 1 ≤ 2; decide⟩ (by repeat (first | exact Subs.nil | refine Subs.cons rfl ?_))
                        | (refine gk_perm (L' := ([(b87, .cells (encId (nameOf pa.1) ++ encId (nameOf pb.1)).toArray 34 (0, 0))] ++ C7) ++ ((b7, .cells (encOp ⟨mk.1.draft, mk.1.author, 0, rising [nameOf pa.1, nameOf pb.1]⟩ v88).toArray 38 (0, 0)) :: (b10, .cells (encOpV pa).toArray 38 (0, 0)) :: (b11, .cells (encOpV pb).toArray 38 (0, 0)) :: (C8 ++ ((b6, .cells (encMakeV mk).toArray 78 (0, 0)) :: ((b13, .cells [v0, v1, v2, v3].toArray 48 (0, 0)) :: (C0 ++ (C1 ++ (C2 ++ (C3 ++ (Co ++ L)))))))))) (by haveI : DecidableEq (Nat × Obj) := fun _ _ => Classical.propDecidable _; rw [List.perm_iff_count]; intro a; simp only [List.count_append, List.count_cons, List.count_nil]; ac_rfl) ?_
                           refine gk_drop (L' := (b7, .cells (encOp ⟨mk.1.draft, mk.1.author, 0, rising [nameOf pa.1, nameOf pb.1]⟩ v88).toArray 38 (0, 0)) :: (b10, .cells (encOpV pa).toArray 38 (0, 0)) :: (b11, .cells (encOpV pb).toArray 38 (0, 0)) :: (C8 ++ ((b6, .cells (encMakeV mk).toArray 78 (0, 0)) :: ((b13, .cells [v0, v1, v2, v3].toArray 48 (0, 0)) :: (C0 ++ (C1 ++ (C2 ++ (C3 ++ (Co ++ L))))))))) (List.sublist_append_right _ _) ?_
                           exact gk_cut (rising [nameOf pa.1, nameOf pb.1], v88, C8) ⟨rfl, rfl, hO8, by rw [if_neg (by simpa using hcR15)], Nat.le_of_eq (rising_len2 _ _)⟩ (by repeat (first | exact Subs.nil | refine Subs.cons rfl ?_)))
                  · rintro ⟨ps, pv, Cp⟩ H3 L3 ⟨rfl, rfl, hOp, hps, hpl⟩
                    simp only at hOp hps hpl
                    show GC _ _ _ _ [(3, pt b13 0), (4, (.slice Ao ov.length co)), (14, .slice A xs.length cv), (15, i64 xs.length), (16, i64 k), (6, pt b6 0), (7, pt b7 0), (10, pt b10 0), (11, pt b11 0)] H2 ((b7, .cells (encOp ⟨mk.1.draft, mk.1.author, 0, ps⟩ pv).toArray 38 (0, 0)) :: (b10, .cells (encOpV pa).toArray 38 (0, 0)) :: (b11, .cells (encOpV pb).toArray 38 (0, 0)) :: (Cp ++ ((b6, .cells (encMakeV mk).toArray 78 (0, 0)) :: ((b13, .cells [v0, v1, v2, v3].toArray 48 (0, 0)) :: (C0 ++ (C1 ++ (C2 ++ (C3 ++ (Co ++ L)))))))))
                    refine gc_seqr [(.mv, 0), (.mv, 1), (.mv, 2), (.mv, 3), (.mv, 4), (.mv, 5), (.mv, 6), (.mv, 7), (.mv, 8), (.mv, 9), (.mv, 10), (.nm, 11)] rfl ?_
                    refine gr_rd rfl rfl rfl (rd_fieldAddr Tryd.fa38_2 rfl) ?_
                    refine gr_rd rfl rfl rfl (rd_load1 Tryd.to3 rfl (Cells.own (l := encOpV pa) (T := 38) (z := (0, 0)) (by simp [baseL])) (v := i64 pa.1.depth) (encOp_36 _ _)) ?_
                    refine gr_rd rfl rfl rfl (rd_fieldAddr Tryd.fa38_2 rfl) ?_
                    refine gr_rd rfl rfl rfl (rd_load1 Tryd.to3 rfl (Cells.own (l := encOpV pb) (T := 38) (z := (0, 0)) (by simp [baseL])) (v := i64 pb.1.depth) (encOp_36 _ _)) ?_
                    refine gr_rd rfl rfl rfl (rd_max2 rfl rfl (imax_eq _ _)) ?_
                    refine gr_rd rfl rfl rfl (rd_add rfl rfl (IntKind.wrap_i64 _)) ?_
                    refine gr_rd rfl rfl rfl (rd_fieldAddr Tryd.fa78_5 rfl) ?_
                    refine gr_rd rfl rfl rfl (rd_load1 Tryd.to3 rfl (Cells.own (l := encMakeV mk) (T := 78) (z := (0, 0)) (by simp [baseL])) (encMakeV_39 _)) ?_
                    refine gr_rd rfl rfl rfl (rd_rem rfl rfl (by omega) rfl) ?_
                    refine gr_rd rfl rfl rfl (rd_add rfl rfl (IntKind.wrap_i64 _)) ?_
                    refine gr_rd rfl rfl rfl (rd_fieldAddr Tryd.fa38_2 rfl) ?_
                    refine gr_nx0 rfl rfl (nx_store (vs := [i64 (wrap (wrap (1 + max pa.1.depth pb.1.depth) + mk.1.deep.tmod 3))]) Tryd.sizeOf3 rfl rfl rfl (rfl) (by repeat (first | exact Upd.here | exact Upd.appl (by assumption) | apply Upd.there | apply Upd.app)) (by simp) (oneCells_of_all rfl)) ?_; rintro _ _ _ _ ⟨rfl, rfl, rfl⟩; refine ⟨trivial, ?_⟩
                    rw [encOp_set_depth]
                    refine gr_nil ?_
                    first
                      | exact gk_cut q ⟨Gh.le_refl _, rfl, hq, hrq, hmo⟩ (by repeat (first | exact Subs.nil | refine Subs.cons rfl ?_))
                      | (refine gk_perm (L' := Cp ++ ((b7, .cells (encOpV (byTwo mk.1 pa.1 pb.1, pv)).toArray 38 (0, 0)) :: (b10, .cells (encOpV pa).toArray 38 (0, 0)) :: (b11, .cells (encOpV pb).toArray 38 (0, 0)) :: (b6, .cells (encMakeV mk).toArray 78 (0, 0)) :: ((b13, .cells [v0, v1, v2, v3].toArray 48 (0, 0)) :: (C0 ++ (C1 ++ (C2 ++ (C3 ++ (Co ++ L)))))))) (by haveI : DecidableEq (Nat × Obj) := fun _ _ => Classical.propDecidable _; rw [List.perm_iff_count]; intro a; simp only [List.count_append, List.count_cons, List.count_nil]; ac_rfl) ?_
                         refine gk_sealOw encId_length hOp rfl (by omega) (fun H3 hH3 hs => ?_)
                         refine gk_drop (L' := (b7, .cells (encOpV (byTwo mk.1 pa.1 pb.1, pv)).toArray 38 (0, 0)) :: (b6, .cells (encMakeV mk).toArray 78 (0, 0)) :: ((b13, .cells [v0, v1, v2, v3].toArray 48 (0, 0)) :: (C0 ++ (C1 ++ (C2 ++ (C3 ++ (Co ++ L))))))) (by repeat (first | exact List.Sublist.refl _ | exact List.nil_sublist _ | apply List.Sublist.cons_cons | apply List.Sublist.cons | refine List.Sublist.trans ?_ (List.sublist_append_right _ _))) ?_
                         exact gk_cut (byTwo mk.1 pa.1 pb.1, pv) ⟨hH3, rfl, by rw [hps] at hs; exact hs, ⟨hmr.draft, hmr.author, (wrap_range _).2⟩, hmo⟩ (by repeat (first | exact Subs.nil | refine Subs.cons rfl ?_)))
              · have hmo : makeOp s (ov.map (·.1)) mk.1 = some q.1 := by
                  by_cases h0 : mk.1.kind = 0
                  · obtain ⟨h1, h2⟩ := hk0 h0
                    rw [makeOp_next h0 h1, h2]
                  · rw [makeOp_self h0 ?_, hkn h0]
                    first
                      | (rintro ⟨h1, _⟩; simp [h1] at hg3; done)
                      | (rintro ⟨_, h1⟩; have := of_decide_eq_false hc4; simp at h1; omega)
                refine gc_skip ?_
                first
                  | exact gk_cut q ⟨Gh.le_refl _, rfl, hq, hrq, hmo⟩ (by repeat (first | exact Subs.nil | refine Subs.cons rfl ?_))
                  | (refine gk_perm (L' := Cp ++ ((b7, .cells (encOpV (byTwo mk.1 pa.1 pb.1, pv)).toArray 38 (0, 0)) :: (b10, .cells (encOpV pa).toArray 38 (0, 0)) :: (b11, .cells (encOpV pb).toArray 38 (0, 0)) :: (b6, .cells (encMakeV mk).toArray 78 (0, 0)) :: ((b13, .cells [v0, v1, v2, v3].toArray 48 (0, 0)) :: (C0 ++ (C1 ++ (C2 ++ (C3 ++ (Co ++ L)))))))) (by haveI : DecidableEq (Nat × Obj) := fun _ _ => Classical.propDecidable _; rw [List.perm_iff_count]; intro a; simp only [List.count_append, List.count_cons, List.count_nil]; ac_rfl) ?_
                     refine gk_sealOw encId_length hOp rfl (by omega) (fun H3 hH3 hs => ?_)
                     refine gk_drop (L' := (b7, .cells (encOpV (byTwo mk.1 pa.1 pb.1, pv)).toArray 38 (0, 0)) :: (b6, .cells (encMakeV mk).toArray 78 (0, 0)) :: ((b13, .cells [v0, v1, v2, v3].toArray 48 (0, 0)) :: (C0 ++ (C1 ++ (C2 ++ (C3 ++ (Co ++ L))))))) (by repeat (first | exact List.Sublist.refl _ | exact List.nil_sublist _ | apply List.Sublist.cons_cons | apply List.Sublist.cons | refine List.Sublist.trans ?_ (List.sublist_append_right _ _))) ?_
                     exact gk_cut (byTwo mk.1 pa.1 pb.1, pv) ⟨hH3, rfl, by rw [hps] at hs; exact hs, ⟨hmr.draft, hmr.author, (wrap_range _).2⟩, hmo⟩ (by repeat (first | exact Subs.nil | refine Subs.cons rfl ?_)))
            · skip
              refine gr_no rfl rfl rfl ?_
              refine gr_no rfl rfl rfl ?_
              refine gr_no rfl rfl rfl ?_
              (first | refine gr_rd rfl rfl rfl (rd_pick_t rfl rfl) ?_ | refine gr_rd rfl rfl rfl (rd_pick_f rfl rfl) ?_)
              refine gr_nil ?_
              refine gk_then ?_
              refine gc_no rfl ?_
              have hmo : makeOp s (ov.map (·.1)) mk.1 = some q.1 := by
                by_cases h0 : mk.1.kind = 0
                · obtain ⟨h1, h2⟩ := hk0 h0
                  rw [makeOp_next h0 h1, h2]
                · rw [makeOp_self h0 ?_, hkn h0]
                  first
                    | (rintro ⟨h1, _⟩; simp [h1] at hg3; done)
                    | (rintro ⟨_, h1⟩; have := of_decide_eq_false hc4; simp at h1; omega)
              refine gc_skip ?_
              first
                | exact gk_cut q ⟨Gh.le_refl _, rfl, hq, hrq, hmo⟩ (by repeat (first | exact Subs.nil | refine Subs.cons rfl ?_))
                | (refine gk_perm (L' := Cp ++ ((b7, .cells (encOpV (byTwo mk.1 pa.1 pb.1, pv)).toArray 38 (0, 0)) :: (b10, .cells (encOpV pa).toArray 38 (0, 0)) :: (b11, .cells (encOpV pb).toArray 38 (0, 0)) :: (b6, .cells (encMakeV mk).toArray 78 (0, 0)) :: ((b13, .cells [v0, v1, v2, v3].toArray 48 (0, 0)) :: (C0 ++ (C1 ++ (C2 ++ (C3 ++ (Co ++ L)))))))) (by haveI : DecidableEq (Nat × Obj) := fun _ _ => Classical.propDecidable _; rw [List.perm_iff_count]; intro a; simp only [List.count_append, List.count_cons, List.count_nil]; ac_rfl) ?_
                   refine gk_sealOw encId_length hOp rfl (by omega) (fun H3 hH3 hs => ?_)
                   refine gk_drop (L' := (b7, .cells (encOpV (byTwo mk.1 pa.1 pb.1, pv)).toArray 38 (0, 0)) :: (b6, .cells (encMakeV mk).toArray 78 (0, 0)) :: ((b13, .cells [v0, v1, v2, v3].toArray 48 (0, 0)) :: (C0 ++ (C1 ++ (C2 ++ (C3 ++ (Co ++ L))))))) (by repeat (first | exact List.Sublist.refl _ | exact List.nil_sublist _ | apply List.Sublist.cons_cons | apply List.Sublist.cons | refine List.Sublist.trans ?_ (List.sublist_append_right _ _))) ?_
                   exact gk_cut (byTwo mk.1 pa.1 pb.1, pv) ⟨hH3, rfl, by rw [hps] at hs; exact hs, ⟨hmr.draft, hmr.author, (wrap_range _).2⟩, hmo⟩ (by repeat (first | exact Subs.nil | refine Subs.cons rfl ?_)))
          · rintro ⟨o, po⟩ H3 L3 ⟨hH23, rfl, hq, hrq, hmo⟩
            simp only at hq hrq hmo
            replace hS := hS.up hH23
            replace hov : ∀ p ∈ ov, Ids H3 [] p.2 p.1.preds ∧ FitO p.1 := fun p hp => ⟨(hov p hp).1.up hH23, (hov p hp).2⟩
            replace hmp := hmp.up hH23
            replace hH1 := Gh.le_trans hH1 hH23
            obtain ⟨aq, cq, rfl⟩ : ∃ aq cq, po = .slice aq o.preds.length cq := by
              obtain ⟨a, b, off, cap, l, h, _⟩ := hq
              exact ⟨a, cap, h⟩
            show GC _ _ _ _ [(3, pt b13 0), (4, (.slice Ao ov.length co)), (14, .slice A xs.length cv), (15, i64 xs.length), (16, i64 k), (6, pt b6 0), (7, pt b7 0)] H3 ((b7, .cells (encOpV (o, .slice aq o.preds.length cq)).toArray 38 (0, 0)) :: (b6, .cells (encMakeV mk).toArray 78 (0, 0)) :: ((b13, .cells [v0, v1, v2, v3].toArray 48 (0, 0)) :: (C0 ++ (C1 ++ (C2 ++ (C3 ++ (Co ++ L)))))))
            refine gc_seq ?_
            refine gc_seq ?_
            refine gc_seqr [(.mv, 0), (.mv, 1), (.mv, 2), (.mv, 3), (.mv, 4), (.mv, 5), (.mv, 6), (.mv, 7), (.mv, 8), (.mv, 9), (.mv, 10), (.mv, 11), (.mv, 12), (.mv, 13), (.mv, 14), (.mv, 15), (.mv, 16), (.mv, 17)] rfl ?_
            refine gr_rd rfl rfl rfl (rd_fieldAddr Tryd.fa38_3 rfl) ?_
            refine gr_rd rfl rfl rfl (rd_load1 Tryd.to29 rfl (Cells.own List.mem_cons_self) (v := .slice aq o.preds.length cq) (encOp_37 _ _)) ?_
            refine gr_rd rfl rfl rfl (rd_lenS Tryd.underlying29 rfl) ?_
            refine gr_rd rfl rfl rfl (rd_gtr rfl rfl) ?_
            refine gr_rd rfl rfl rfl (rd_move rfl) ?_
            refine gr_split rfl (fun hg4 => ?_) (fun hg4 => ?_)
            · skip
              refine gr_no rfl rfl rfl ?_
              refine gr_no rfl rfl rfl ?_
              refine gr_no rfl rfl rfl ?_
              refine gr_no rfl rfl rfl ?_
              refine gr_no rfl rfl rfl ?_
              (first | refine gr_rd rfl rfl rfl (rd_pick_t rfl rfl) ?_ | refine gr_rd rfl rfl rfl (rd_pick_f rfl rfl) ?_)
              refine gr_rd rfl rfl rfl (rd_move rfl) ?_
              refine gr_no rfl rfl rfl ?_
              refine gr_no rfl rfl rfl ?_
              refine gr_no rfl rfl rfl ?_
              refine gr_no rfl rfl rfl ?_
              refine gr_no rfl rfl rfl ?_
              (first | refine gr_rd rfl rfl rfl (rd_pick_t rfl rfl) ?_ | refine gr_rd rfl rfl rfl (rd_pick_f rfl rfl) ?_)
              refine gr_nil ?_
              refine gk_then ?_
              refine gc_yes rfl ?_
              have hbig : 70 < o.preds.length ∨ 100 < o.draft.key.length ∨ 100 < o.draft.value.length := by
                first
                  | (have := of_decide_eq_true hg4; exact .inl (by omega))
                  | (have := of_decide_eq_true hg11; exact .inr (.inl (by omega)))
                  | (have := of_decide_eq_true hcR18; exact .inr (.inr (by omega)))
              rw [madeGo_big hmo hbig] at hgo
              refine gc_exit ?_
              refine gk_exit_then ?_
              refine gk_here ?_
              refine gk_then ?_
              refine gc_seqr [(.mv, 0), (.mv, 1)] rfl ?_
              (first | refine gr_rd rfl rfl rfl (rd_add rfl rfl (IntWalk.i64_in _ (by omega))) ?_ | refine gr_rd rfl rfl rfl (rd_add rfl rfl rfl) ?_)
              refine gr_rd rfl rfl rfl (rd_move rfl) ?_
              refine gr_nil ?_
              first
                | (refine gk_drop (L' := ((b13, .cells [v0, v1, v2, v3].toArray 48 (0, 0)) :: (C0 ++ (C1 ++ (C2 ++ (C3 ++ (Co ++ L))))))) (by repeat (first | exact List.Sublist.refl _ | exact List.nil_sublist _ | apply List.Sublist.cons_cons | apply List.Sublist.cons | refine List.Sublist.trans ?_ (List.sublist_append_right _ _))) ?_
                   refine gk_round ⟨k + 1, s, ov, v0, v1, v2, v3, sv, sw, C0, C1, C2, C3, Co, (.slice Ao ov.length co)⟩ ?_ ⟨hH1, rfl, hS, hO, hov, by simp only; omega, by simp only; omega, by simp only; omega, by simp only; omega, hgo⟩ (by repeat (first | exact Subs.nil | refine Subs.cons rfl ?_))
                   show xs.length - (k + 1) < xs.length - k
                   omega)
                | (refine gk_perm (L' := ([(b124, .cells (encOpV (o, .slice aq o.preds.length cq)).toArray 38 (0, 0)), (b7, .cells (encOpV (o, .slice aq o.preds.length cq)).toArray 38 (0, 0)), (b6, .cells (encMakeV mk).toArray 78 (0, 0))] ++ Cr) ++ ((b13, .cells [w0, w1, w2, w3].toArray 48 (0, 0)) :: (D0 ++ (D1 ++ (D2 ++ (D3 ++ (Co2 ++ L))))))) (by haveI : DecidableEq (Nat × Obj) := fun _ _ => Classical.propDecidable _; rw [List.perm_iff_count]; intro a; simp only [List.count_append, List.count_cons, List.count_nil]; ac_rfl) ?_
                   refine gk_drop (L' := ((b13, .cells [w0, w1, w2, w3].toArray 48 (0, 0)) :: (D0 ++ (D1 ++ (D2 ++ (D3 ++ (Co2 ++ L))))))) (List.sublist_append_right _ _) ?_
                   refine gk_round ⟨k + 1, (take s o).1, ov ++ [(o, .slice aq o.preds.length cq)], w0, w1, w2, w3, sv', sw', D0, D1, D2, D3, Co2, v125⟩ ?_ ⟨hH1, rfl, hS3, by simpa [encOpV] using hO2, ?_, by simp only; omega, by simp only; omega, by simp only [List.length_append, List.length_cons, List.length_nil]; omega, by simp only; omega, ?_⟩ (by repeat (first | exact Subs.nil | refine Subs.cons rfl ?_))
                   · show xs.length - (k + 1) < xs.length - k
                     omega
                   · intro p hp
                     rcases List.mem_append.1 hp with hp | hp
                     · exact hov p hp
                     · rw [List.mem_singleton.1 hp]; exact ⟨hq, hfit⟩
                   · simpa using hgo)
            · skip
              refine gr_rd rfl rfl rfl (rd_fieldAddr Tryd.fa38_0 rfl) ?_
              refine gr_rd rfl rfl rfl (rd_fieldAddr Tryd.fa36_1 rfl) ?_
              refine gr_rd rfl rfl rfl (rd_load1 Tryd.to9 rfl (Cells.own List.mem_cons_self) (v := str o.draft.key) (encOp_1 _ _)) ?_
              refine gr_rd rfl rfl rfl (rd_lenL Tryd.underlying9 rfl) ?_
              refine gr_rd rfl rfl rfl (rd_gtr rfl rfl) ?_
              (first | refine gr_rd rfl rfl rfl (rd_pick_t rfl rfl) ?_ | refine gr_rd rfl rfl rfl (rd_pick_f rfl rfl) ?_)
              refine gr_rd rfl rfl rfl (rd_move rfl) ?_
              refine gr_split rfl (fun hg11 => ?_) (fun hg11 => ?_)
              · skip
                refine gr_no rfl rfl rfl ?_
                refine gr_no rfl rfl rfl ?_
                refine gr_no rfl rfl rfl ?_
                refine gr_no rfl rfl rfl ?_
                refine gr_no rfl rfl rfl ?_
                (first | refine gr_rd rfl rfl rfl (rd_pick_t rfl rfl) ?_ | refine gr_rd rfl rfl rfl (rd_pick_f rfl rfl) ?_)
                refine gr_nil ?_
                refine gk_then ?_
                refine gc_yes rfl ?_
                have hbig : 70 < o.preds.length ∨ 100 < o.draft.key.length ∨ 100 < o.draft.value.length := by
                  first
                    | (have := of_decide_eq_true hg4; exact .inl (by omega))
                    | (have := of_decide_eq_true hg11; exact .inr (.inl (by omega)))
                    | (have := of_decide_eq_true hcR18; exact .inr (.inr (by omega)))
                rw [madeGo_big hmo hbig] at hgo
                refine gc_exit ?_
                refine gk_exit_then ?_
                refine gk_here ?_
                refine gk_then ?_
                refine gc_seqr [(.mv, 0), (.mv, 1)] rfl ?_
                (first | refine gr_rd rfl rfl rfl (rd_add rfl rfl (IntWalk.i64_in _ (by omega))) ?_ | refine gr_rd rfl rfl rfl (rd_add rfl rfl rfl) ?_)
                refine gr_rd rfl rfl rfl (rd_move rfl) ?_
                refine gr_nil ?_
                first
                  | (refine gk_drop (L' := ((b13, .cells [v0, v1, v2, v3].toArray 48 (0, 0)) :: (C0 ++ (C1 ++ (C2 ++ (C3 ++ (Co ++ L))))))) (by repeat (first | exact List.Sublist.refl _ | exact List.nil_sublist _ | apply List.Sublist.cons_cons | apply List.Sublist.cons | refine List.Sublist.trans ?_ (List.sublist_append_right _ _))) ?_
                     refine gk_round ⟨k + 1, s, ov, v0, v1, v2, v3, sv, sw, C0, C1, C2, C3, Co, (.slice Ao ov.length co)⟩ ?_ ⟨hH1, rfl, hS, hO, hov, by simp only; omega, by simp only; omega, by simp only; omega, by simp only; omega, hgo⟩ (by repeat (first | exact Subs.nil | refine Subs.cons rfl ?_))
                     show xs.length - (k + 1) < xs.length - k
                     omega)
                  | (refine gk_perm (L' := ([(b124, .cells (encOpV (o, .slice aq o.preds.length cq)).toArray 38 (0, 0)), (b7, .cells (encOpV (o, .slice aq o.preds.length cq)).toArray 38 (0, 0)), (b6, .cells (encMakeV mk).toArray 78 (0, 0))] ++ Cr) ++ ((b13, .cells [w0, w1, w2, w3].toArray 48 (0, 0)) :: (D0 ++ (D1 ++ (D2 ++ (D3 ++ (Co2 ++ L))))))) (by haveI : DecidableEq (Nat × Obj) := fun _ _ => Classical.propDecidable _; rw [List.perm_iff_count]; intro a; simp only [List.count_append, List.count_cons, List.count_nil]; ac_rfl) ?_
                     refine gk_drop (L' := ((b13, .cells [w0, w1, w2, w3].toArray 48 (0, 0)) :: (D0 ++ (D1 ++ (D2 ++ (D3 ++ (Co2 ++ L))))))) (List.sublist_append_right _ _) ?_
                     refine gk_round ⟨k + 1, (take s o).1, ov ++ [(o, .slice aq o.preds.length cq)], w0, w1, w2, w3, sv', sw', D0, D1, D2, D3, Co2, v125⟩ ?_ ⟨hH1, rfl, hS3, by simpa [encOpV] using hO2, ?_, by simp only; omega, by simp only; omega, by simp only [List.length_append, List.length_cons, List.length_nil]; omega, by simp only; omega, ?_⟩ (by repeat (first | exact Subs.nil | refine Subs.cons rfl ?_))
                     · show xs.length - (k + 1) < xs.length - k
                       omega
                     · intro p hp
                       rcases List.mem_append.1 hp with hp | hp
                       · exact hov p hp
                       · rw [List.mem_singleton.1 hp]; exact ⟨hq, hfit⟩
                     · simpa using hgo)
              · skip
                refine gr_rd rfl rfl rfl (rd_fieldAddr Tryd.fa38_0 rfl) ?_
                refine gr_rd rfl rfl rfl (rd_fieldAddr Tryd.fa36_2 rfl) ?_
                refine gr_rd rfl rfl rfl (rd_load1 Tryd.to9 rfl (Cells.own List.mem_cons_self) (v := str o.draft.value) (encOp_2 _ _)) ?_
                refine gr_rd rfl rfl rfl (rd_lenL Tryd.underlying9 rfl) ?_
                refine gr_rd rfl rfl rfl (rd_gtr rfl rfl) ?_
                (first | refine gr_rd rfl rfl rfl (rd_pick_t rfl rfl) ?_ | refine gr_rd rfl rfl rfl (rd_pick_f rfl rfl) ?_)
                refine gr_nil ?_
                refine gk_then ?_
                refine gc_cond rfl (fun hcR18 => ?_) (fun hcR18 => ?_)
                · have hbig : 70 < o.preds.length ∨ 100 < o.draft.key.length ∨ 100 < o.draft.value.length := by
                    first
                      | (have := of_decide_eq_true hg4; exact .inl (by omega))
                      | (have := of_decide_eq_true hg11; exact .inr (.inl (by omega)))
                      | (have := of_decide_eq_true hcR18; exact .inr (.inr (by omega)))
                  rw [madeGo_big hmo hbig] at hgo
                  refine gc_exit ?_
                  refine gk_exit_then ?_
                  refine gk_here ?_
                  refine gk_then ?_
                  refine gc_seqr [(.mv, 0), (.mv, 1)] rfl ?_
                  (first | refine gr_rd rfl rfl rfl (rd_add rfl rfl (IntWalk.i64_in _ (by omega))) ?_ | refine gr_rd rfl rfl rfl (rd_add rfl rfl rfl) ?_)
                  refine gr_rd rfl rfl rfl (rd_move rfl) ?_
                  refine gr_nil ?_
                  first
                    | (refine gk_drop (L' := ((b13, .cells [v0, v1, v2, v3].toArray 48 (0, 0)) :: (C0 ++ (C1 ++ (C2 ++ (C3 ++ (Co ++ L))))))) (by repeat (first | exact List.Sublist.refl _ | exact List.nil_sublist _ | apply List.Sublist.cons_cons | apply List.Sublist.cons | refine List.Sublist.trans ?_ (List.sublist_append_right _ _))) ?_
                       refine gk_round ⟨k + 1, s, ov, v0, v1, v2, v3, sv, sw, C0, C1, C2, C3, Co, (.slice Ao ov.length co)⟩ ?_ ⟨hH1, rfl, hS, hO, hov, by simp only; omega, by simp only; omega, by simp only; omega, by simp only; omega, hgo⟩ (by repeat (first | exact Subs.nil | refine Subs.cons rfl ?_))
                       show xs.length - (k + 1) < xs.length - k
                       omega)
                    | (refine gk_perm (L' := ([(b124, .cells (encOpV (o, .slice aq o.preds.length cq)).toArray 38 (0, 0)), (b7, .cells (encOpV (o, .slice aq o.preds.length cq)).toArray 38 (0, 0)), (b6, .cells (encMakeV mk).toArray 78 (0, 0))] ++ Cr) ++ ((b13, .cells [w0, w1, w2, w3].toArray 48 (0, 0)) :: (D0 ++ (D1 ++ (D2 ++ (D3 ++ (Co2 ++ L))))))) (by haveI : DecidableEq (Nat × Obj) := fun _ _ => Classical.propDecidable _; rw [List.perm_iff_count]; intro a; simp only [List.count_append, List.count_cons, List.count_nil]; ac_rfl) ?_
                       refine gk_drop (L' := ((b13, .cells [w0, w1, w2, w3].toArray 48 (0, 0)) :: (D0 ++ (D1 ++ (D2 ++ (D3 ++ (Co2 ++ L))))))) (List.sublist_append_right _ _) ?_
                       refine gk_round ⟨k + 1, (take s o).1, ov ++ [(o, .slice aq o.preds.length cq)], w0, w1, w2, w3, sv', sw', D0, D1, D2, D3, Co2, v125⟩ ?_ ⟨hH1, rfl, hS3, by simpa [encOpV] using hO2, ?_, by simp only; omega, by simp only; omega, by simp only [List.length_append, List.length_cons, List.length_nil]; omega, by simp only; omega, ?_⟩ (by repeat (first | exact Subs.nil | refine Subs.cons rfl ?_))
                       · show xs.length - (k + 1) < xs.length - k
                         omega
                       · intro p hp
                         rcases List.mem_append.1 hp with hp | hp
                         · exact hov p hp
                         · rw [List.mem_singleton.1 hp]; exact ⟨hq, hfit⟩
                       · simpa using hgo)
                · have h1 := of_decide_eq_false hg4
                  have h2 := of_decide_eq_false hg11
                  have h3 := of_decide_eq_false hcR18
                  rw [madeGo_some hmo (by omega)] at hgo
                  have hfit : FitO o := ⟨hrq, by omega, by omega, by omega⟩
                  have htl := take_len s o
                  refine gc_skip ?_
                  refine gk_then ?_
                  refine gc_seq ?_
                  refine gc_seqr [(.mv, 0), (.mv, 1), (.nm, 2)] rfl ?_
                  refine gr_rd rfl rfl rfl (rd_move rfl) ?_
                  refine gr_rd rfl rfl rfl (rd_loadA Tryd.ta38 rfl (Cells.own List.mem_cons_self) (Seg.all _) (encOpV_length _)) ?_
                  refine gr_perm (L' := ((b13, .cells [v0, v1, v2, v3].toArray 48 (0, 0)) :: (C0 ++ (C1 ++ (C2 ++ (C3 ++ ((b7, .cells (encOpV (o, .slice aq o.preds.length cq)).toArray 38 (0, 0)) :: (b6, .cells (encMakeV mk).toArray 78 (0, 0)) :: (Co ++ L)))))))) (by haveI : DecidableEq (Nat × Obj) := fun _ _ => Classical.propDecidable _; rw [List.perm_iff_count]; intro a; simp only [List.count_append, List.count_cons, List.count_nil]; ac_rfl) ?_
                  refine gr_nx rfl rfl rfl (nx_call Tryd.en19 rfl (rtake_cc _ ((b7, .cells (encOpV (o, .slice aq o.preds.length cq)).toArray 38 (0, 0)) :: (b6, .cells (encMakeV mk).toArray 78 (0, 0)) :: (Co ++ L)) hS (by omega) o _ hq hfit.small)) ?_; rintro v121 H' L' hle ⟨w0, w1, w2, w3, sv', sw', D0, D1, D2, D3, Cr, vr, hS3, hOr, rfl, rfl, rfl⟩; refine ⟨trivial, ?_⟩
                  refine gr_nil ?_
                  refine gk_then ?_
                  refine gc_seqr [(.mv, 0), (.mv, 1), (.nm, 2), (.nm, 3), (.mv, 4)] rfl ?_
                  refine gr_rd rfl rfl rfl (rd_move rfl) ?_
                  refine gr_rd rfl rfl rfl (rd_loadA Tryd.ta38 rfl (Cells.own (l := encOpV (o, .slice aq o.preds.length cq)) (T := 38) (z := (0, 0)) (by simp [baseL])) (Seg.all _) (encOpV_length _)) ?_
                  refine gr_nx rfl rfl rfl (nx_sliceA1 Tryd.underlying25 Tryd.sizeOf38 Tryd.zeroValue38 rfl rfl rfl (by first | exact encId_length _ | exact encOp_length _ _ | exact encDraft_length _ | rfl | simp) rfl) ?_; rintro _ _ _ _ ⟨b124, rfl, rfl, rfl⟩; refine ⟨trivial, ?_⟩
                  refine gr_nx rfl rfl rfl (nx_append (m := 1) Tryd.app25_25 rfl rfl hO (by repeat (first | exact Pick.here | exact Pick.one | apply Pick.there | apply Pick.app)) (src_slice (b := b124) (o := 0) (l := encOpV (o, .slice aq o.preds.length cq)) (m := 1) (by simp) (encOp_ones _ rfl) (fun h => by cases h) (fun _ _ => ⟨rfl, Cells.own List.mem_cons_self, Seg.all _⟩)) (by omega) (by omega)) ?_; rintro v125 H' L' hle ⟨Co2, hO2, _, rfl, rfl⟩; refine ⟨trivial, ?_⟩
                  refine gr_rd rfl rfl rfl (rd_assign rfl) ?_
                  refine gr_nil ?_
                  refine gk_inBlock ?_
                  refine gk_then ?_
                  refine gc_seqr [(.mv, 0), (.mv, 1)] rfl ?_
                  (first | refine gr_rd rfl rfl rfl (rd_add rfl rfl (IntWalk.i64_in _ (by omega))) ?_ | refine gr_rd rfl rfl rfl (rd_add rfl rfl rfl) ?_)
                  refine gr_rd rfl rfl rfl (rd_move rfl) ?_
                  refine gr_nil ?_
                  first
                    | (refine gk_drop (L' := ((b13, .cells [v0, v1, v2, v3].toArray 48 (0, 0)) :: (C0 ++ (C1 ++ (C2 ++ (C3 ++ (Co ++ L))))))) (by repeat (first | exact List.Sublist.refl _ | exact List.nil_sublist _ | apply List.Sublist.cons_cons | apply List.Sublist.cons | refine List.Sublist.trans ?_ (List.sublist_append_right _ _))) ?_
                       refine gk_round ⟨k + 1, s, ov, v0, v1, v2, v3, sv, sw, C0, C1, C2, C3, Co, (.slice Ao ov.length co)⟩ ?_ ⟨hH1, rfl, hS, hO, hov, by simp only; omega, by simp only; omega, by simp only; omega, by simp only; omega, hgo⟩ (by repeat (first | exact Subs.nil | refine Subs.cons rfl ?_))
                       show xs.length - (k + 1) < xs.length - k
                       omega)
                    | (refine gk_perm (L' := ([(b124, .cells (encOpV (o, .slice aq o.preds.length cq)).toArray 38 (0, 0)), (b7, .cells (encOpV (o, .slice aq o.preds.length cq)).toArray 38 (0, 0)), (b6, .cells (encMakeV mk).toArray 78 (0, 0))] ++ Cr) ++ ((b13, .cells [w0, w1, w2, w3].toArray 48 (0, 0)) :: (D0 ++ (D1 ++ (D2 ++ (D3 ++ (Co2 ++ L))))))) (by haveI : DecidableEq (Nat × Obj) := fun _ _ => Classical.propDecidable _; rw [List.perm_iff_count]; intro a; simp only [List.count_append, List.count_cons, List.count_nil]; ac_rfl) ?_
                       refine gk_drop (L' := ((b13, .cells [w0, w1, w2, w3].toArray 48 (0, 0)) :: (D0 ++ (D1 ++ (D2 ++ (D3 ++ (Co2 ++ L))))))) (List.sublist_append_right _ _) ?_
                       refine gk_round ⟨k + 1, (take s o).1, ov ++ [(o, .slice aq o.preds.length cq)], w0, w1, w2, w3, sv', sw', D0, D1, D2, D3, Co2, v125⟩ ?_ ⟨hH1, rfl, hS3, by simpa [encOpV] using hO2, ?_, by simp only; omega, by simp only; omega, by simp only [List.length_append, List.length_cons, List.length_nil]; omega, by simp only; omega, ?_⟩ (by repeat (first | exact Subs.nil | refine Subs.cons rfl ?_))
                       · show xs.length - (k + 1) < xs.length - k
                         omega
                       · intro p hp
                         rcases List.mem_append.1 hp with hp | hp
                         · exact hov p hp
                         · rw [List.mem_singleton.1 hp]; exact ⟨hq, hfit⟩
                       · simpa using hgo)
    · have hkl : k = xs.length := by simp at hc0; omega
      have hgo2 : ov.map (·.1) = made (xs.map (·.1)) := by
        rw [← hgo, hkl, List.drop_eq_nil_of_le (by simp), madeGo_nil]
      refine gc_exit ?_
      refine gk_exit_then ?_
      refine gk_exit_then ?_
      refine gk_here ?_
      refine gk_then ?_
      refine gc_seq ?_
      refine gc_seqr [(.mv, 0), (.mv, 1)] rfl ?_
      refine gr_rd rfl rfl rfl (rd_move rfl) ?_
      refine gr_rd rfl rfl rfl (rd_assign rfl) ?_
      refine gr_nil ?_
      refine gk_then ?_
      refine gc_ret ?_
      refine gk_result (L' := Co ++ L) (.inl rfl) _ (res1 rfl rfl) (by repeat (first | exact List.Sublist.refl _ | apply List.Sublist.cons_cons | apply List.Sublist.cons | apply List.Sublist.append (List.Sublist.refl _) | refine List.Sublist.trans ?_ (List.sublist_append_right _ _))) (by first | exact Gh.le_refl _ | assumption | exact Gh.le_trans (by assumption) (by assumption)) ?_
      exact ⟨ov, Co, hO, hgo2, hov, by omega, rfl⟩
end Go.Proofs.YtfhldfjknagidaaDoor
