/-
  Walks: the reference's set takes an operation.
-/
import Derived.Test.YtfhldfjknagidaaDoorVKs12
import Derived.Test.YtfhldfjknagidaaDoorVKq
set_option linter.unusedSimpArgs false
set_option linter.unusedVariables false
namespace Go.Proofs.YtfhldfjknagidaaDoor
open Go.VK Go.Tr
set_option maxRecDepth 20000
attribute [local irreducible] Go.Tr.sha
/-- A set that is owned: four slices. -/
structure RSet (H : Gh) (s : DSet) (v0 v1 v2 v3 : Value) (ov wv : List (POp × Value)) (C0 C1 C2 C3 : Chunks) : Prop where
  ops : Ow 38 38 C0 v0 ov.length (ov.flatMap encOpV)
  opsE : ov.map (·.1) = s.ops.map (·.2)
  wait : Ow 38 38 C1 v1 wv.length (wv.flatMap encOpV)
  waitE : wv.map (·.1) = s.wait.map (·.2)
  names : Ow 34 32 C2 v2 s.ops.length ((s.ops.map (·.1)).flatMap encId)
  waits : Ow 34 32 C3 v3 s.wait.length ((s.wait.map (·.1)).flatMap encId)
  preds : ∀ p ∈ ov, Ids H [] p.2 p.1.preds
  predsW : ∀ p ∈ wv, Ids H [] p.2 p.1.preds
theorem RSet.lens {H : Gh} {s : DSet} {v0 v1 v2 v3 : Value} {ov wv : List (POp × Value)} {C0 C1 C2 C3 : Chunks} (h : RSet H s v0 v1 v2 v3 ov wv C0 C1 C2 C3) : ov.length = s.ops.length ∧ wv.length = s.wait.length :=
  ⟨by simpa using congrArg List.length h.opsE, by simpa using congrArg List.length h.waitE⟩
theorem RSet.view {H : Gh} {s : DSet} {v0 v1 v2 v3 : Value} {ov wv : List (POp × Value)} {C0 C1 C2 C3 : Chunks} {L : Chunks} {b : Nat} {T : TypeId} {z : Nat × Nat} (h : RSet H s v0 v1 v2 v3 ov wv C0 C1 C2 C3)
    (hz : s.ops.length + s.wait.length < 16777216) (hb : (b, Obj.cells [v0, v1, v2, v3].toArray T z) ∈ L) (h0 : ∀ x ∈ C0, x ∈ L) (h1 : ∀ x ∈ C1, x ∈ L) (h2 : ∀ x ∈ C2, x ∈ L) (h3 : ∀ x ∈ C3, x ∈ L) : RView H L b s v0 v1 v2 v3 ov wv := by
  obtain ⟨e0, e1⟩ := h.lens
  exact ⟨Cells.own hb, ⟨Ow.slT encOpV_length h.ops rfl (by omega) h0, h.preds⟩, h.opsE, ⟨Ow.slT encOpV_length h.wait rfl (by omega) h1, h.predsW⟩, h.waitE, Ow.slT encId_length h.names (by simp) (by omega) h2, Ow.slT encId_length h.waits (by simp) (by omega) h3⟩
/-- What stands at the start of each round of Take's last loop. -/
structure LS where
  k : Nat
  s : DSet
  out : List Nm
  w0 : Value
  w1 : Value
  w2 : Value
  w3 : Value
  ov : List (POp × Value)
  wv : List (POp × Value)
  D0 : Chunks
  D1 : Chunks
  D2 : Chunks
  D3 : Chunks
  Co : Chunks
  vo : Value
def bestI : Option (Nat × Nm) → Int
  | none => -1
  | some (i, _) => i
theorem bestOf_step {s : DSet} {l : List (Nm × POp)} {i : Nat} {n : Nm} {o : POp} {b : Option (Nat × Nm)} (h : l[i]? = some (n, o)) :
    bestOf s (l.drop i) i b = bestOf s (l.drop (i + 1)) (i + 1) (if whole s o && (match b with | none => true | some (_, m) => cmp n m < 0) then some (i, n) else b) := by
  obtain ⟨h1, h2⟩ := List.getElem?_eq_some_iff.1 h
  rw [List.drop_eq_getElem_cons h1, h2]; rfl
theorem best_at {s : DSet} {m : Nat} {n : Nm} (h : bestOf s s.wait 0 none = some (m, n)) : ∃ o, s.wait[m]? = some (n, o) ∧ whole s o = true := by
  rcases bestOf_spec s s.wait 0 none with ⟨h1, _⟩ | ⟨k, n', o, h1, h2, h3, _, _⟩
  · rw [h1] at h; cases h
  · rw [h3] at h
    simp only [Nat.zero_add, Option.some.injEq, Prod.mk.injEq] at h
    obtain ⟨rfl, rfl⟩ := h
    exact ⟨o, h1, h2⟩
theorem settle_step {s : DSet} {m k : Nat} {n : Nm} {o : POp} {out : List Nm} (h : bestOf s s.wait 0 none = some (m, n)) (ho : s.wait[m]? = some (n, o)) :
    Tr.settle (k + 1) s out = if o.depth = depthOf ⟨s.ops, s.wait.eraseIdx m⟩ o.preds then Tr.settle k ⟨s.ops ++ [(n, o)], s.wait.eraseIdx m⟩ (out ++ [n]) else Tr.settle k ⟨s.ops, s.wait.eraseIdx m⟩ out := by
  rw [Tr.settle]
  simp only [h, ho]
theorem flat_onesM {α : Type} {enc : α → List Value} {xs : List α} (h1 : ∀ x ∈ xs, oneCells (enc x)) : oneCells (xs.flatMap enc) := fun u hu => by
  obtain ⟨x, hx', hx⟩ := List.mem_flatMap.1 hu
  exact h1 x hx' u hx
theorem SlT.srcM {α : Type} {enc : α → List Value} {k : Nat} {P : Program} {H : Gh} {L : Chunks} {v : Value} {xs : List α} {n : Nat} (hk : ∀ x, (enc x).length = k) (h1 : ∀ x ∈ xs, oneCells (enc x)) (h : SlT enc k H L v xs) (hn : xs.length = n) : Src P H L k v n (xs.flatMap enc) := by
  subst hn
  obtain ⟨a, b, o, c, l, rfl, hc, hn, h0, h3, h2⟩ := h
  refine src_slice (b := b) (o := o) (l := l) (flat_len hk xs) (flat_onesM h1) (fun ha => by simp [(h0 ha).1]) (fun _ hne => ?_)
  have hne' : xs ≠ [] := fun e => hne (by simp [e])
  refine ⟨(h3 hne').1, (h3 hne').2, fun j u hu => ?_⟩
  have hj := (List.getElem?_eq_some_iff.1 hu).1
  rw [flat_len hk] at hj
  have hk0 : 0 < k := by
    rcases Nat.eq_zero_or_pos k with h | h
    · subst h; simp at hj
    · exact h
  have hq : j / k < xs.length := (Nat.div_lt_iff_lt_mul hk0).2 hj
  have hx : xs[j / k]? = some xs[j / k] := List.getElem?_eq_getElem hq
  have hdm : j / k * k + j % k = j := by rw [Nat.mul_comm]; exact Nat.div_add_mod j k
  have hr : j % k < (enc xs[j / k]).length := by rw [hk]; exact Nat.mod_lt _ hk0
  have e1 := flat_seg hk xs (j / k) _ hx (j % k) _ (List.getElem?_eq_getElem hr)
  rw [hdm, hu] at e1
  have e2 := h2 (j / k) _ hx (j % k) _ (List.getElem?_eq_getElem hr)
  rw [Nat.add_assoc, hdm] at e2
  rw [e2, ← e1]
theorem eraseIdx_cut {α : Type} (l : List α) (m : Nat) : l.take m ++ l.drop (m + 1) = l.eraseIdx m := (List.eraseIdx_eq_take_drop_succ l m).symm
theorem has_pos {l : List (Nm × POp)} {n : Nm} : (decide (0 ≤ posOf (l.map (·.1)) n)) = has l n := by
  have h := posOf_has (l := l) (n := n)
  cases hh : has l n with
  | true => rw [hh] at h; have := of_decide_eq_false (h.trans rfl); exact decide_eq_true (by omega)
  | false => rw [hh] at h; have := of_decide_eq_true (h.trans rfl); exact decide_eq_false (by omega)

set_option maxHeartbeats 4000000 in
theorem rtake_cc (H : Gh) (L : Chunks) {b : Nat} {s : DSet} {v0 v1 v2 v3 : Value} {ov wv : List (POp × Value)} {C0 C1 C2 C3 : Chunks} (hS : RSet H s v0 v1 v2 v3 ov wv C0 C1 C2 C3) (hz : s.ops.length + s.wait.length < 16777215)
    (o : POp) (pv : Value) (hp : Ids H [] pv o.preds) (ho : SmallO o) :
    CC Tryd.prog 19 #[pt b 0, ag (encOp o pv)] H ((b, .cells [v0, v1, v2, v3].toArray 48 (0, 0)) :: (C0 ++ (C1 ++ (C2 ++ (C3 ++ L))))) (fun v H' L' => ∃ w0 w1 w2 w3 ov' wv' D0 D1 D2 D3 Co vo, RSet H (take s o).1 w0 w1 w2 w3 ov' wv' D0 D1 D2 D3 ∧
      Ow 34 32 Co vo (take s o).2.1.length ((take s o).2.1.flatMap encId) ∧ v = .tuple #[vo, i64 (take s o).2.2] ∧ H = H' ∧ Co ++ ((b, .cells [w0, w1, w2, w3].toArray 48 (0, 0)) :: (D0 ++ (D1 ++ (D2 ++ (D3 ++ L))))) = L') := by
  obtain ⟨hlo, hlw⟩ := hS.lens
  refine cc_of Tryd.func19 rfl (Nat.le_of_ble_eq_true rfl) ?_
  simp only [Tryd.ntmps19]
  refine gc_seq ?_
  refine gc_seqr [(.nm, 0), (.mv, 1), (.mv, 2)] rfl ?_
  refine gr_nx rfl rfl rfl (nx_box rfl rfl) ?_; rintro _ _ _ _ ⟨b3, rfl, rfl, rfl⟩; refine ⟨trivial, ?_⟩
  refine gr_rd rfl rfl rfl (rd_assign rfl) ?_
  refine gr_rd rfl rfl rfl (rd_assign rfl) ?_
  refine gr_nil ?_
  refine gk_then ?_
  refine gc_seq ?_
  refine gc_seq ?_
  refine gc_seqr [(.mv, 0), (.nm, 1), (.mv, 2)] rfl ?_
  refine gr_rd rfl rfl rfl (rd_loadA Tryd.ta38 rfl (Cells.own (l := encOp o pv) (T := 38) (z := (0, 0)) (by simp [baseL])) (Seg.all _) (encOp_length _ _)) ?_
  refine gr_nx rfl rfl rfl (nx_call Tryd.en53 rfl (rgood_cc _ _ o pv hp.any)) ?_; rintro v14 H' L' hle ⟨rfl, rfl, rfl⟩; refine ⟨trivial, ?_⟩
  refine gr_rd rfl rfl rfl (rd_not rfl) ?_
  refine gr_nil ?_
  refine gk_then ?_
  refine gc_cond rfl (fun hc0 => ?_) (fun hc0 => ?_)
  · have ht : take s o = (s, [], 1) := by rw [take, if_pos (by simpa using hc0)]
    refine gc_seq ?_
    refine gc_seqr [(.mv, 0), (.mv, 1)] rfl ?_
    refine gr_rd rfl rfl rfl (rd_assign rfl) ?_
    refine gr_rd rfl rfl rfl (rd_assign rfl) ?_
    refine gr_nil ?_
    refine gk_then ?_
    refine gc_ret ?_
    refine gk_ret_then ?_
    refine gk_perm (L' := [(b3, .cells (encOp o pv).toArray 38 (0, 0))] ++ ([] ++ ((b, .cells [v0, v1, v2, v3].toArray 48 (0, 0)) :: (C0 ++ (C1 ++ (C2 ++ (C3 ++ L))))))) (by haveI : DecidableEq (Nat × Obj) := fun _ _ => Classical.propDecidable _; rw [List.perm_iff_count]; intro a; simp only [List.count_append, List.count_cons, List.count_nil]; ac_rfl) ?_
    refine gk_result (L' := [] ++ ((b, .cells [v0, v1, v2, v3].toArray 48 (0, 0)) :: (C0 ++ (C1 ++ (C2 ++ (C3 ++ L)))))) (.inl rfl) _ (res2 rfl rfl rfl) (List.sublist_append_right _ _) (Gh.le_refl _) ?_
    exact ⟨v0, v1, v2, v3, ov, wv, C0, C1, C2, C3, [], _, by rw [ht]; exact hS, by rw [ht]; exact Ow.nil, by rw [ht], rfl, rfl⟩
  · skip
    refine gc_skip ?_
    refine gk_then ?_
    refine gc_seq ?_
    refine gc_seqr [(.mv, 0), (.nm, 1), (.nm, 2), (.nm, 3)] rfl ?_
    refine gr_rd rfl rfl rfl (rd_loadA Tryd.ta38 rfl (Cells.own (l := encOp o pv) (T := 38) (z := (0, 0)) (by simp [baseL])) (Seg.all _) (encOp_length _ _)) ?_
    refine gr_nx rfl rfl rfl (nx_call Tryd.en16 rfl (rname_cc _ _ o pv hp.any ho)) ?_; rintro v17 H' L' hle ⟨rfl, rfl, rfl⟩; refine ⟨trivial, ?_⟩
    refine gr_nx rfl rfl rfl (nx_alloc Tryd.zeroValue34 rfl) ?_; rintro _ _ _ _ ⟨b6, rfl, rfl, rfl⟩; refine ⟨trivial, ?_⟩
    refine gr_nx0 rfl rfl (nx_store (vs := encId (nameOf o)) Tryd.sizeOf34 rfl rfl rfl (encId_length _) Upd.here (by simp) (encId_ones _)) ?_; rintro _ _ _ _ ⟨rfl, rfl, rfl⟩; refine ⟨trivial, ?_⟩
    rw [wr_all (by rw [encId_length]; exact Nat.le_refl _)]
    refine gr_nil ?_
    refine gk_then ?_
    refine gc_seq ?_
    refine gc_seq ?_
    refine gc_seqr [(.mv, 0), (.mv, 1), (.nm, 2), (.mv, 3), (.mv, 4), (.mv, 5), (.mv, 6), (.nm, 7), (.mv, 8)] rfl ?_
    refine gr_rd rfl rfl rfl (rd_move rfl) ?_
    refine gr_rd rfl rfl rfl (rd_loadA Tryd.ta34 rfl (Cells.own (l := encId (nameOf o)) (T := 34) (z := (0, 0)) (by simp [baseL])) (Seg.all _) (encId_length _)) ?_
    refine gr_nx rfl rfl rfl (nx_call Tryd.en23 rfl (rat_cc _ _ (hS.view (L := _) (T := 48) (z := (0, 0)) (by omega) (by simp [baseL]) (by intro x hx; simp [baseL, hx]) (by intro x hx; simp [baseL, hx]) (by intro x hx; simp [baseL, hx]) (by intro x hx; simp [baseL, hx])) (nameOf o))) ?_; rintro v20 H' L' hle ⟨rfl, rfl, rfl⟩; refine ⟨trivial, ?_⟩
    refine gr_rd rfl rfl rfl (rd_geq rfl rfl) ?_
    refine gr_rd rfl rfl rfl (rd_move rfl) ?_
    refine gr_split rfl (fun hg4 => ?_) (fun hg4 => ?_)
    · skip
      refine gr_no rfl rfl rfl ?_
      refine gr_no rfl rfl rfl ?_
      refine gr_no rfl rfl rfl ?_
      (first | refine gr_rd rfl rfl rfl (rd_pick_t rfl rfl) ?_ | refine gr_rd rfl rfl rfl (rd_pick_f rfl rfl) ?_)
      refine gr_nil ?_
      refine gk_then ?_
      refine gc_yes rfl ?_
      have ht : take s o = (s, [], 9) := by rw [take, if_neg (by simpa using hc0), if_pos (by rw [← has_pos]; simp_all)]
      refine gc_seq ?_
      refine gc_seqr [(.mv, 0), (.mv, 1)] rfl ?_
      refine gr_rd rfl rfl rfl (rd_assign rfl) ?_
      refine gr_rd rfl rfl rfl (rd_assign rfl) ?_
      refine gr_nil ?_
      refine gk_then ?_
      refine gc_ret ?_
      refine gk_ret_then ?_
      refine gk_perm (L' := [(b6, .cells (encId (nameOf o)).toArray 34 (0, 0)), (b3, .cells (encOp o pv).toArray 38 (0, 0))] ++ ([] ++ ((b, .cells [v0, v1, v2, v3].toArray 48 (0, 0)) :: (C0 ++ (C1 ++ (C2 ++ (C3 ++ L))))))) (by haveI : DecidableEq (Nat × Obj) := fun _ _ => Classical.propDecidable _; rw [List.perm_iff_count]; intro a; simp only [List.count_append, List.count_cons, List.count_nil]; ac_rfl) ?_
      refine gk_result (L' := [] ++ ((b, .cells [v0, v1, v2, v3].toArray 48 (0, 0)) :: (C0 ++ (C1 ++ (C2 ++ (C3 ++ L)))))) (.inl rfl) _ (res2 rfl rfl rfl) (List.sublist_append_right _ _) (Gh.le_refl _) ?_
      exact ⟨v0, v1, v2, v3, ov, wv, C0, C1, C2, C3, [], _, by rw [ht]; exact hS, by rw [ht]; exact Ow.nil, by rw [ht], rfl, rfl⟩
    · skip
      refine gr_rd rfl rfl rfl (rd_move rfl) ?_
      refine gr_rd rfl rfl rfl (rd_loadA Tryd.ta34 rfl (Cells.own (l := encId (nameOf o)) (T := 34) (z := (0, 0)) (by simp [baseL])) (Seg.all _) (encId_length _)) ?_
      refine gr_nx rfl rfl rfl (nx_call Tryd.en54 rfl (rwaiting_cc _ _ (hS.view (L := _) (T := 48) (z := (0, 0)) (by omega) (by simp [baseL]) (by intro x hx; simp [baseL, hx]) (by intro x hx; simp [baseL, hx]) (by intro x hx; simp [baseL, hx]) (by intro x hx; simp [baseL, hx])) (nameOf o))) ?_; rintro v25 H' L' hle ⟨rfl, rfl, rfl⟩; refine ⟨trivial, ?_⟩
      (first | refine gr_rd rfl rfl rfl (rd_pick_t rfl rfl) ?_ | refine gr_rd rfl rfl rfl (rd_pick_f rfl rfl) ?_)
      refine gr_nil ?_
      refine gk_then ?_
      refine gc_cond rfl (fun hc1 => ?_) (fun hc1 => ?_)
      · have ht : take s o = (s, [], 9) := by rw [take, if_neg (by simpa using hc0), if_pos (by rw [← has_pos]; simp_all)]
        refine gc_seq ?_
        refine gc_seqr [(.mv, 0), (.mv, 1)] rfl ?_
        refine gr_rd rfl rfl rfl (rd_assign rfl) ?_
        refine gr_rd rfl rfl rfl (rd_assign rfl) ?_
        refine gr_nil ?_
        refine gk_then ?_
        refine gc_ret ?_
        refine gk_ret_then ?_
        refine gk_perm (L' := [(b6, .cells (encId (nameOf o)).toArray 34 (0, 0)), (b3, .cells (encOp o pv).toArray 38 (0, 0))] ++ ([] ++ ((b, .cells [v0, v1, v2, v3].toArray 48 (0, 0)) :: (C0 ++ (C1 ++ (C2 ++ (C3 ++ L))))))) (by haveI : DecidableEq (Nat × Obj) := fun _ _ => Classical.propDecidable _; rw [List.perm_iff_count]; intro a; simp only [List.count_append, List.count_cons, List.count_nil]; ac_rfl) ?_
        refine gk_result (L' := [] ++ ((b, .cells [v0, v1, v2, v3].toArray 48 (0, 0)) :: (C0 ++ (C1 ++ (C2 ++ (C3 ++ L)))))) (.inl rfl) _ (res2 rfl rfl rfl) (List.sublist_append_right _ _) (Gh.le_refl _) ?_
        exact ⟨v0, v1, v2, v3, ov, wv, C0, C1, C2, C3, [], _, by rw [ht]; exact hS, by rw [ht]; exact Ow.nil, by rw [ht], rfl, rfl⟩
      · have hh : (has s.ops (nameOf o) || has s.wait (nameOf o)) = false := by rw [← has_pos]; simp_all
        refine gc_skip ?_
        refine gk_then ?_
        refine gc_seq ?_
        refine gc_seq ?_
        refine gc_seqr [(.mv, 0), (.mv, 1), (.nm, 2), (.mv, 3)] rfl ?_
        refine gr_rd rfl rfl rfl (rd_move rfl) ?_
        refine gr_rd rfl rfl rfl (rd_loadA Tryd.ta38 rfl (Cells.own (l := encOp o pv) (T := 38) (z := (0, 0)) (by simp [baseL])) (Seg.all _) (encOp_length _ _)) ?_
        refine gr_nx rfl rfl rfl (nx_call Tryd.en55 rfl (rwhole_cc _ _ (hS.view (L := _) (T := 48) (z := (0, 0)) (by omega) (by simp [baseL]) (by intro x hx; simp [baseL, hx]) (by intro x hx; simp [baseL, hx]) (by intro x hx; simp [baseL, hx]) (by intro x hx; simp [baseL, hx])) o pv hp.any)) ?_; rintro v29 H' L' hle ⟨rfl, rfl, rfl⟩; refine ⟨trivial, ?_⟩
        refine gr_rd rfl rfl rfl (rd_not rfl) ?_
        refine gr_nil ?_
        refine gk_then ?_
        refine gc_cond rfl (fun hc2 => ?_) (fun hc2 => ?_)
        · have hw : whole s o = false := by simpa using hc2
          have ht : take s o = (⟨s.ops, s.wait ++ [(nameOf o, o)]⟩, [], 0) := by rw [take, if_neg (by simpa using hc0), if_neg (by simp [hh]), if_pos (by simp [hw])]
          refine gc_seq ?_
          refine gc_draw Tryd.mixed [(.mv, 0), (.mv, 1), (.mv, 2), (.mv, 3), (.mv, 4), (.mv, 5), (.nm, 6), (.nm, 7), (.mv, 8), (.mv, 9), (.fin, 10)] (by decide +kernel) [(b6, .cells (encId (nameOf o)).toArray 34 (0, 0)), (b3, .cells (encOp o pv).toArray 38 (0, 0)), (b, .cells [v0, v1, v2, v3].toArray 48 (0, 0))] ((List.Sublist.cons_cons _ (List.Sublist.cons_cons _ (List.Sublist.cons_cons _ (List.nil_sublist _))))) ?_
          refine gr_rd rfl rfl rfl (rd_move rfl) ?_
          refine gr_rd rfl rfl rfl (rd_move rfl) ?_
          refine gr_rd rfl rfl rfl (rd_nilCheck rfl) ?_
          refine gr_rd rfl rfl rfl (rd_fieldAddr Tryd.fa48_1 rfl) ?_
          refine gr_rd rfl rfl rfl (rd_load1 Tryd.to25 rfl (Cells.own (l := [v0, v1, v2, v3]) (T := 48) (z := (0, 0)) (by simp [baseL])) rfl) ?_
          refine gr_rd rfl rfl rfl (rd_loadA Tryd.ta38 rfl (Cells.own (l := encOp o pv) (T := 38) (z := (0, 0)) (by simp [baseL])) (Seg.all _) (encOp_length _ _)) ?_
          refine gr_nx rfl rfl rfl (nx_sliceA1 Tryd.underlying25 Tryd.sizeOf38 Tryd.zeroValue38 rfl rfl rfl (by first | exact encId_length _ | exact encOp_length _ _ | exact encDraft_length _ | rfl | simp) rfl) ?_; rintro _ _ _ _ ⟨b37, rfl, rfl, rfl⟩; refine ⟨⟨(by first | exact Gh.le_refl _ | assumption | exact Gh.le_trans (by assumption) (by assumption)), (by repeat (first | exact List.Sublist.refl _ | exact List.nil_sublist _ | apply List.Sublist.cons_cons | apply List.Sublist.cons | apply List.Sublist.append (List.Sublist.refl _) | refine List.Sublist.trans ?_ (List.sublist_append_right _ _)))⟩, ?_⟩
          refine gr_nx rfl rfl rfl (nx_append (m := 1) Tryd.app25_25 rfl rfl hS.wait (by repeat (first | exact Pick.here | exact Pick.one | apply Pick.there | apply Pick.app)) (src_slice (b := b37) (o := 0) (l := encOp o pv) (m := 1) (by simp) (encOp_ones _ hp.one) (fun h => by cases h) (fun _ _ => ⟨rfl, Cells.own List.mem_cons_self, Seg.all _⟩)) (by omega) (by omega)) ?_; rintro v38 H' L' hle ⟨D1, hD1, _, rfl, rfl⟩; refine ⟨⟨(by first | exact Gh.le_refl _ | assumption | exact Gh.le_trans (by assumption) (by assumption)), (by repeat (first | exact List.Sublist.refl _ | exact List.nil_sublist _ | apply List.Sublist.cons_cons | apply List.Sublist.cons | apply List.Sublist.append (List.Sublist.refl _) | refine List.Sublist.trans ?_ (List.sublist_append_right _ _)))⟩, ?_⟩
          refine gr_drop (L' := D1 ++ ((b6, .cells (encId (nameOf o)).toArray 34 (0, 0)) :: (b3, .cells (encOp o pv).toArray 38 (0, 0)) :: (b, .cells [v0, v1, v2, v3].toArray 48 (0, 0)) :: (C0 ++ (C2 ++ (C3 ++ L))))) (by repeat (first | exact List.Sublist.refl _ | apply List.Sublist.cons_cons | apply List.Sublist.cons | apply List.Sublist.append (List.Sublist.refl _) | refine List.Sublist.trans ?_ (List.sublist_append_right _ _))) ?_
          refine gr_rd rfl rfl rfl (rd_nilCheck rfl) ?_
          refine gr_rd rfl rfl rfl (rd_fieldAddr Tryd.fa48_1 rfl) ?_
          refine gr_fin0 rfl rfl (nx_store (vs := [_]) Tryd.sizeOf25 rfl rfl (cells1 (Ow.one hD1)) rfl (by repeat (first | exact Upd.here | exact Upd.appl (by assumption) | apply Upd.there | apply Upd.app)) (by simp) (oneCells_cons (Ow.one hD1) oneCells_nil)) ?_; rintro _ _ _ _ ⟨rfl, rfl, rfl⟩
          refine gr_nil ?_
          refine gk_then ?_
          refine gc_seq ?_
          refine gc_draw Tryd.mixed [(.mv, 0), (.mv, 1), (.mv, 2), (.mv, 3), (.mv, 4), (.mv, 5), (.nm, 6), (.nm, 7), (.mv, 8), (.mv, 9), (.fin, 10)] (by decide +kernel) [(b6, .cells (encId (nameOf o)).toArray 34 (0, 0)), (b3, .cells (encOp o pv).toArray 38 (0, 0)), (b, .cells [v0, v38, v2, v3].toArray 48 (0, 0))] (((List.Sublist.cons_cons _ (List.Sublist.cons_cons _ (List.Sublist.cons_cons _ (List.nil_sublist _)))).trans (List.sublist_append_right _ _))) ?_
          refine gr_rd rfl rfl rfl (rd_move rfl) ?_
          refine gr_rd rfl rfl rfl (rd_move rfl) ?_
          refine gr_rd rfl rfl rfl (rd_nilCheck rfl) ?_
          refine gr_rd rfl rfl rfl (rd_fieldAddr Tryd.fa48_3 rfl) ?_
          refine gr_rd rfl rfl rfl (rd_load1 Tryd.to29 rfl (Cells.own (l := [v0, v38, v2, v3]) (T := 48) (z := (0, 0)) (by simp [baseL])) rfl) ?_
          refine gr_rd rfl rfl rfl (rd_loadA Tryd.ta34 rfl (Cells.own (l := encId (nameOf o)) (T := 34) (z := (0, 0)) (by simp [baseL])) (Seg.all _) (encId_length _)) ?_
          refine gr_nx rfl rfl rfl (nx_sliceA1 Tryd.underlying29 Tryd.sizeOf34 Tryd.zeroValue34 rfl rfl rfl (by first | exact encId_length _ | exact encOp_length _ _ | exact encDraft_length _ | rfl | simp) rfl) ?_; rintro _ _ _ _ ⟨b47, rfl, rfl, rfl⟩; refine ⟨⟨(by first | exact Gh.le_refl _ | assumption | exact Gh.le_trans (by assumption) (by assumption)), (by repeat (first | exact List.Sublist.refl _ | exact List.nil_sublist _ | apply List.Sublist.cons_cons | apply List.Sublist.cons | apply List.Sublist.append (List.Sublist.refl _) | refine List.Sublist.trans ?_ (List.sublist_append_right _ _)))⟩, ?_⟩
          refine gr_nx rfl rfl rfl (nx_append (m := 1) Tryd.app29_29 rfl rfl hS.waits (by repeat (first | exact Pick.here | exact Pick.one | apply Pick.there | apply Pick.app)) (src_slice (b := b47) (o := 0) (l := encId (nameOf o)) (m := 1) (by simp) (encId_ones _) (fun h => by cases h) (fun _ _ => ⟨rfl, Cells.own List.mem_cons_self, Seg.all _⟩)) (by omega) (by omega)) ?_; rintro v48 H' L' hle ⟨D3, hD3, _, rfl, rfl⟩; refine ⟨⟨(by first | exact Gh.le_refl _ | assumption | exact Gh.le_trans (by assumption) (by assumption)), (by repeat (first | exact List.Sublist.refl _ | exact List.nil_sublist _ | apply List.Sublist.cons_cons | apply List.Sublist.cons | apply List.Sublist.append (List.Sublist.refl _) | refine List.Sublist.trans ?_ (List.sublist_append_right _ _)))⟩, ?_⟩
          refine gr_drop (L' := D3 ++ (D1 ++ ((b6, .cells (encId (nameOf o)).toArray 34 (0, 0)) :: (b3, .cells (encOp o pv).toArray 38 (0, 0)) :: (b, .cells [v0, v38, v2, v3].toArray 48 (0, 0)) :: (C0 ++ (C2 ++ L))))) (by repeat (first | exact List.Sublist.refl _ | apply List.Sublist.cons_cons | apply List.Sublist.cons | apply List.Sublist.append (List.Sublist.refl _) | refine List.Sublist.trans ?_ (List.sublist_append_right _ _))) ?_
          refine gr_rd rfl rfl rfl (rd_nilCheck rfl) ?_
          refine gr_rd rfl rfl rfl (rd_fieldAddr Tryd.fa48_3 rfl) ?_
          refine gr_fin0 rfl rfl (nx_store (vs := [_]) Tryd.sizeOf29 rfl rfl (cells1 (Ow.one hD3)) rfl (by repeat (first | exact Upd.here | exact Upd.appl (by assumption) | apply Upd.there | apply Upd.app)) (by simp) (oneCells_cons (Ow.one hD3) oneCells_nil)) ?_; rintro _ _ _ _ ⟨rfl, rfl, rfl⟩
          refine gr_nil ?_
          refine gk_then ?_
          refine gc_seq ?_
          refine gc_seqr [(.mv, 0), (.mv, 1)] rfl ?_
          refine gr_rd rfl rfl rfl (rd_assign rfl) ?_
          refine gr_rd rfl rfl rfl (rd_assign rfl) ?_
          refine gr_nil ?_
          refine gk_then ?_
          refine gc_ret ?_
          refine gk_ret_then ?_
          refine gk_perm (L' := [(b6, .cells (encId (nameOf o)).toArray 34 (0, 0)), (b3, .cells (encOp o pv).toArray 38 (0, 0))] ++ ([] ++ ((b, .cells [v0, v38, v2, v48].toArray 48 (0, 0)) :: (C0 ++ (D1 ++ (C2 ++ (D3 ++ L))))))) (by haveI : DecidableEq (Nat × Obj) := fun _ _ => Classical.propDecidable _; rw [List.perm_iff_count]; intro a; simp only [List.count_append, List.count_cons, List.count_nil]; ac_rfl) ?_
          refine gk_result (L' := [] ++ ((b, .cells [v0, v38, v2, v48].toArray 48 (0, 0)) :: (C0 ++ (D1 ++ (C2 ++ (D3 ++ L)))))) (.inl rfl) _ (res2 rfl rfl rfl) (List.sublist_append_right _ _) (Gh.le_refl _) ?_
          refine ⟨v0, v38, v2, v48, ov, wv ++ [(o, pv)], C0, D1, C2, D3, [], _, ?_, by rw [ht]; exact Ow.nil, by rw [ht], rfl, rfl⟩
          rw [ht]
          exact ⟨hS.ops, hS.opsE, by simpa [encOpV] using hD1, by simp [hS.waitE], hS.names, by simpa using hD3, hS.preds, fun p hp' => (List.mem_append.1 hp').elim (hS.predsW p) (fun h => by cases List.mem_singleton.1 h; exact hp)⟩
        · have hwt : whole s o = true := by simpa using hc2
          have hall : ∀ n ∈ o.preds, has s.ops n = true := by simpa [whole] using hwt
          refine gc_skip ?_
          refine gk_then ?_
          refine gc_seq ?_
          refine gc_seq ?_
          refine gc_draw Tryd.mixed [(.mv, 0), (.mv, 1), (.mv, 2), (.mv, 3), (.nm, 4), (.mv, 5)] (by decide +kernel) _ (List.Sublist.refl _) ?_
          refine gr_rd rfl rfl rfl (rd_fieldAddr Tryd.fa38_2 rfl) ?_
          refine gr_rd rfl rfl rfl (rd_load1 Tryd.to3 rfl (by first | (apply Cells.own; (repeat (first | exact List.mem_cons_self | apply List.mem_cons_of_mem)); done) | assumption) (by first | rfl | assumption | exact encOp_37 _ _ | exact encOp_36 _ _ | exact encOp_35 _ _ | exact encOp_0 _ _ | exact encOp_1 _ _ | exact encOp_2 _ _ | exact encDraft_0 _ | exact encDraft_1 _ | exact encDraft_2 _ | simp)) ?_
          refine gr_rd rfl rfl rfl (rd_move rfl) ?_
          refine gr_rd rfl rfl rfl (rd_loadA Tryd.ta38 rfl (Cells.own (l := encOp o pv) (T := 38) (z := (0, 0)) (by simp [baseL])) (Seg.all _) (encOp_length _ _)) ?_
          refine gr_nx rfl rfl rfl (nx_call Tryd.en56 rfl (rdepth_cc _ _ (hS.view (L := _) (T := 48) (z := (0, 0)) (by omega) (by simp [baseL]) (by intro x hx; simp [baseL, hx]) (by intro x hx; simp [baseL, hx]) (by intro x hx; simp [baseL, hx]) (by intro x hx; simp [baseL, hx])) o pv hp.any hall)) ?_; rintro v55 H' L' hle ⟨rfl, rfl, rfl⟩; refine ⟨⟨(by first | exact Gh.le_refl _ | assumption | exact Gh.le_trans (by assumption) (by assumption)), (by repeat (first | exact List.Sublist.refl _ | exact List.nil_sublist _ | apply List.Sublist.cons_cons | apply List.Sublist.cons | apply List.Sublist.append (List.Sublist.refl _) | refine List.Sublist.trans ?_ (List.sublist_append_right _ _)))⟩, ?_⟩
          refine gr_rd rfl rfl rfl (rd_neq rfl rfl) ?_
          refine gr_nil ?_
          refine gk_then ?_
          refine gc_cond rfl (fun hc3 => ?_) (fun hc3 => ?_)
          · have hd : o.depth ≠ depthOf s o.preds := iN_t.1 hc3
            have ht : take s o = (s, [], 10) := by rw [take, if_neg (by simpa using hc0), if_neg (by simp [hh]), if_neg (by simp [hwt]), if_pos hd]
            refine gc_seq ?_
            refine gc_seqr [(.mv, 0), (.mv, 1)] rfl ?_
            refine gr_rd rfl rfl rfl (rd_assign rfl) ?_
            refine gr_rd rfl rfl rfl (rd_assign rfl) ?_
            refine gr_nil ?_
            refine gk_then ?_
            refine gc_ret ?_
            refine gk_ret_then ?_
            refine gk_perm (L' := [(b6, .cells (encId (nameOf o)).toArray 34 (0, 0)), (b3, .cells (encOp o pv).toArray 38 (0, 0))] ++ ([] ++ ((b, .cells [v0, v1, v2, v3].toArray 48 (0, 0)) :: (C0 ++ (C1 ++ (C2 ++ (C3 ++ L))))))) (by haveI : DecidableEq (Nat × Obj) := fun _ _ => Classical.propDecidable _; rw [List.perm_iff_count]; intro a; simp only [List.count_append, List.count_cons, List.count_nil]; ac_rfl) ?_
            refine gk_result (L' := [] ++ ((b, .cells [v0, v1, v2, v3].toArray 48 (0, 0)) :: (C0 ++ (C1 ++ (C2 ++ (C3 ++ L)))))) (.inl rfl) _ (res2 rfl rfl rfl) (List.sublist_append_right _ _) (Gh.le_refl _) ?_
            exact ⟨v0, v1, v2, v3, ov, wv, C0, C1, C2, C3, [], _, by rw [ht]; exact hS, by rw [ht]; exact Ow.nil, by rw [ht], rfl, rfl⟩
          · have hd : ¬ o.depth ≠ depthOf s o.preds := by simpa using hc3
            obtain ⟨s1, hs1⟩ : ∃ s1 : DSet, (⟨s.ops ++ [(nameOf o, o)], s.wait⟩ : DSet) = s1 := ⟨_, rfl⟩
            have ht : take s o = ((Tr.settle (s.wait.length + 1) s1 [nameOf o]).1, (Tr.settle (s.wait.length + 1) s1 [nameOf o]).2, 0) := by rw [take, if_neg (by simpa using hc0), if_neg (by simp [hh]), if_neg (by simp [hwt]), if_neg hd, hs1]
            refine gc_skip ?_
            refine gk_then ?_
            refine gc_seq ?_
            refine gc_draw Tryd.mixed [(.mv, 0), (.mv, 1), (.mv, 2), (.mv, 3), (.mv, 4), (.mv, 5), (.nm, 6), (.nm, 7), (.mv, 8), (.mv, 9), (.fin, 10)] (by decide +kernel) [(b6, .cells (encId (nameOf o)).toArray 34 (0, 0)), (b3, .cells (encOp o pv).toArray 38 (0, 0)), (b, .cells [v0, v1, v2, v3].toArray 48 (0, 0))] ((List.Sublist.cons_cons _ (List.Sublist.cons_cons _ (List.Sublist.cons_cons _ (List.nil_sublist _))))) ?_
            refine gr_rd rfl rfl rfl (rd_move rfl) ?_
            refine gr_rd rfl rfl rfl (rd_move rfl) ?_
            refine gr_rd rfl rfl rfl (rd_nilCheck rfl) ?_
            refine gr_rd rfl rfl rfl (rd_fieldAddr Tryd.fa48_0 rfl) ?_
            refine gr_rd rfl rfl rfl (rd_load1 Tryd.to25 rfl (Cells.own (l := [v0, v1, v2, v3]) (T := 48) (z := (0, 0)) (by simp [baseL])) rfl) ?_
            refine gr_rd rfl rfl rfl (rd_loadA Tryd.ta38 rfl (Cells.own (l := encOp o pv) (T := 38) (z := (0, 0)) (by simp [baseL])) (Seg.all _) (encOp_length _ _)) ?_
            refine gr_nx rfl rfl rfl (nx_sliceA1 Tryd.underlying25 Tryd.sizeOf38 Tryd.zeroValue38 rfl rfl rfl (by first | exact encId_length _ | exact encOp_length _ _ | exact encDraft_length _ | rfl | simp) rfl) ?_; rintro _ _ _ _ ⟨b63, rfl, rfl, rfl⟩; refine ⟨⟨(by first | exact Gh.le_refl _ | assumption | exact Gh.le_trans (by assumption) (by assumption)), (by repeat (first | exact List.Sublist.refl _ | exact List.nil_sublist _ | apply List.Sublist.cons_cons | apply List.Sublist.cons | apply List.Sublist.append (List.Sublist.refl _) | refine List.Sublist.trans ?_ (List.sublist_append_right _ _)))⟩, ?_⟩
            refine gr_nx rfl rfl rfl (nx_append (m := 1) Tryd.app25_25 rfl rfl hS.ops (by repeat (first | exact Pick.here | exact Pick.one | apply Pick.there | apply Pick.app)) (src_slice (b := b63) (o := 0) (l := encOp o pv) (m := 1) (by simp) (encOp_ones _ hp.one) (fun h => by cases h) (fun _ _ => ⟨rfl, Cells.own List.mem_cons_self, Seg.all _⟩)) (by omega) (by omega)) ?_; rintro v64 H' L' hle ⟨E0, hE0, _, rfl, rfl⟩; refine ⟨⟨(by first | exact Gh.le_refl _ | assumption | exact Gh.le_trans (by assumption) (by assumption)), (by repeat (first | exact List.Sublist.refl _ | exact List.nil_sublist _ | apply List.Sublist.cons_cons | apply List.Sublist.cons | apply List.Sublist.append (List.Sublist.refl _) | refine List.Sublist.trans ?_ (List.sublist_append_right _ _)))⟩, ?_⟩
            refine gr_drop (L' := E0 ++ ((b6, .cells (encId (nameOf o)).toArray 34 (0, 0)) :: (b3, .cells (encOp o pv).toArray 38 (0, 0)) :: (b, .cells [v0, v1, v2, v3].toArray 48 (0, 0)) :: (C1 ++ (C2 ++ (C3 ++ L))))) (by repeat (first | exact List.Sublist.refl _ | apply List.Sublist.cons_cons | apply List.Sublist.cons | apply List.Sublist.append (List.Sublist.refl _) | refine List.Sublist.trans ?_ (List.sublist_append_right _ _))) ?_
            refine gr_rd rfl rfl rfl (rd_nilCheck rfl) ?_
            refine gr_rd rfl rfl rfl (rd_fieldAddr Tryd.fa48_0 rfl) ?_
            refine gr_fin0 rfl rfl (nx_store (vs := [_]) Tryd.sizeOf25 rfl rfl (cells1 (Ow.one hE0)) rfl (by repeat (first | exact Upd.here | exact Upd.appl (by assumption) | apply Upd.there | apply Upd.app)) (by simp) (oneCells_cons (Ow.one hE0) oneCells_nil)) ?_; rintro _ _ _ _ ⟨rfl, rfl, rfl⟩
            refine gr_nil ?_
            refine gk_then ?_
            refine gc_seq ?_
            refine gc_draw Tryd.mixed [(.mv, 0), (.mv, 1), (.mv, 2), (.mv, 3), (.mv, 4), (.mv, 5), (.nm, 6), (.nm, 7), (.mv, 8), (.mv, 9), (.fin, 10)] (by decide +kernel) [(b6, .cells (encId (nameOf o)).toArray 34 (0, 0)), (b3, .cells (encOp o pv).toArray 38 (0, 0)), (b, .cells [v64, v1, v2, v3].toArray 48 (0, 0))] (((List.Sublist.cons_cons _ (List.Sublist.cons_cons _ (List.Sublist.cons_cons _ (List.nil_sublist _)))).trans (List.sublist_append_right _ _))) ?_
            refine gr_rd rfl rfl rfl (rd_move rfl) ?_
            refine gr_rd rfl rfl rfl (rd_move rfl) ?_
            refine gr_rd rfl rfl rfl (rd_nilCheck rfl) ?_
            refine gr_rd rfl rfl rfl (rd_fieldAddr Tryd.fa48_2 rfl) ?_
            refine gr_rd rfl rfl rfl (rd_load1 Tryd.to29 rfl (Cells.own (l := [v64, v1, v2, v3]) (T := 48) (z := (0, 0)) (by simp [baseL])) rfl) ?_
            refine gr_rd rfl rfl rfl (rd_loadA Tryd.ta34 rfl (Cells.own (l := encId (nameOf o)) (T := 34) (z := (0, 0)) (by simp [baseL])) (Seg.all _) (encId_length _)) ?_
            refine gr_nx rfl rfl rfl (nx_sliceA1 Tryd.underlying29 Tryd.sizeOf34 Tryd.zeroValue34 rfl rfl rfl (by first | exact encId_length _ | exact encOp_length _ _ | exact encDraft_length _ | rfl | simp) rfl) ?_; rintro _ _ _ _ ⟨b73, rfl, rfl, rfl⟩; refine ⟨⟨(by first | exact Gh.le_refl _ | assumption | exact Gh.le_trans (by assumption) (by assumption)), (by repeat (first | exact List.Sublist.refl _ | exact List.nil_sublist _ | apply List.Sublist.cons_cons | apply List.Sublist.cons | apply List.Sublist.append (List.Sublist.refl _) | refine List.Sublist.trans ?_ (List.sublist_append_right _ _)))⟩, ?_⟩
            refine gr_nx rfl rfl rfl (nx_append (m := 1) Tryd.app29_29 rfl rfl hS.names (by repeat (first | exact Pick.here | exact Pick.one | apply Pick.there | apply Pick.app)) (src_slice (b := b73) (o := 0) (l := encId (nameOf o)) (m := 1) (by simp) (encId_ones _) (fun h => by cases h) (fun _ _ => ⟨rfl, Cells.own List.mem_cons_self, Seg.all _⟩)) (by omega) (by omega)) ?_; rintro v74 H' L' hle ⟨E2, hE2, _, rfl, rfl⟩; refine ⟨⟨(by first | exact Gh.le_refl _ | assumption | exact Gh.le_trans (by assumption) (by assumption)), (by repeat (first | exact List.Sublist.refl _ | exact List.nil_sublist _ | apply List.Sublist.cons_cons | apply List.Sublist.cons | apply List.Sublist.append (List.Sublist.refl _) | refine List.Sublist.trans ?_ (List.sublist_append_right _ _)))⟩, ?_⟩
            refine gr_drop (L' := E2 ++ (E0 ++ ((b6, .cells (encId (nameOf o)).toArray 34 (0, 0)) :: (b3, .cells (encOp o pv).toArray 38 (0, 0)) :: (b, .cells [v64, v1, v2, v3].toArray 48 (0, 0)) :: (C1 ++ (C3 ++ L))))) (by repeat (first | exact List.Sublist.refl _ | apply List.Sublist.cons_cons | apply List.Sublist.cons | apply List.Sublist.append (List.Sublist.refl _) | refine List.Sublist.trans ?_ (List.sublist_append_right _ _))) ?_
            refine gr_rd rfl rfl rfl (rd_nilCheck rfl) ?_
            refine gr_rd rfl rfl rfl (rd_fieldAddr Tryd.fa48_2 rfl) ?_
            refine gr_fin0 rfl rfl (nx_store (vs := [_]) Tryd.sizeOf29 rfl rfl (cells1 (Ow.one hE2)) rfl (by repeat (first | exact Upd.here | exact Upd.appl (by assumption) | apply Upd.there | apply Upd.app)) (by simp) (oneCells_cons (Ow.one hE2) oneCells_nil)) ?_; rintro _ _ _ _ ⟨rfl, rfl, rfl⟩
            refine gr_nil ?_
            refine gk_then ?_
            refine gc_seq ?_
            refine gc_seqr [(.mv, 0), (.nm, 1), (.mv, 2)] rfl ?_
            refine gr_rd rfl rfl rfl (rd_loadA Tryd.ta34 rfl (Cells.own (l := encId (nameOf o)) (T := 34) (z := (0, 0)) (by simp [baseL])) (Seg.all _) (encId_length _)) ?_
            refine gr_nx rfl rfl rfl (nx_sliceA1 Tryd.underlying29 Tryd.sizeOf34 Tryd.zeroValue34 rfl rfl rfl (by first | exact encId_length _ | exact encOp_length _ _ | exact encDraft_length _ | rfl | simp) rfl) ?_; rintro _ _ _ _ ⟨b78, rfl, rfl, rfl⟩; refine ⟨trivial, ?_⟩
            refine gr_rd rfl rfl rfl (rd_assign rfl) ?_
            have hS1 : RSet H s1 v64 v1 v74 v3 (ov ++ [(o, pv)]) wv E0 C1 E2 C3 := by
              rw [← hs1]
              exact ⟨by simpa [encOpV] using hE0, by simp [hS.opsE], hS.wait, hS.waitE, by simpa using hE2, hS.waits, fun p hp' => (List.mem_append.1 hp').elim (hS.preds p) (fun h => by cases List.mem_singleton.1 h; exact hp), hS.predsW⟩
            refine gr_perm (L' := [(b6, .cells (encId (nameOf o)).toArray 34 (0, 0)), (b3, .cells (encOp o pv).toArray 38 (0, 0))] ++ ([(b78, .cells (encId (nameOf o)).toArray 34 (0, 0))] ++ ((b, .cells [v64, v1, v74, v3].toArray 48 (0, 0)) :: (E0 ++ (C1 ++ (E2 ++ (C3 ++ L))))))) (by haveI : DecidableEq (Nat × Obj) := fun _ _ => Classical.propDecidable _; rw [List.perm_iff_count]; intro a; simp only [List.count_append, List.count_cons, List.count_nil]; ac_rfl) ?_
            refine gr_drop (L' := [(b78, .cells (encId (nameOf o)).toArray 34 (0, 0))] ++ ((b, .cells [v64, v1, v74, v3].toArray 48 (0, 0)) :: (E0 ++ (C1 ++ (E2 ++ (C3 ++ L)))))) (List.sublist_append_right _ _) ?_
            refine gr_nil ?_
            refine gk_then ?_
            refine gc_block ?_
            refine gc_loop (fun t : LS => [(0, pt b 0), (7, t.vo)]) (fun t H1 L1 => H = H1 ∧ L1 = t.Co ++ ((b, .cells [t.w0, t.w1, t.w2, t.w3].toArray 48 (0, 0)) :: (t.D0 ++ (t.D1 ++ (t.D2 ++ (t.D3 ++ L))))) ∧ RSet H t.s t.w0 t.w1 t.w2 t.w3 t.ov t.wv t.D0 t.D1 t.D2 t.D3 ∧ Ow 34 32 t.Co t.vo t.out.length (t.out.flatMap encId) ∧ t.s.ops.length + t.s.wait.length ≤ s.ops.length + s.wait.length + 1 ∧ t.out.length + t.s.wait.length ≤ s.wait.length + 1 ∧ t.s.wait.length < t.k ∧ Tr.settle t.k t.s t.out = Tr.settle (s.wait.length + 1) s1 [nameOf o]) (fun t => t.s.wait.length) (⟨s.wait.length + 1, s1, [nameOf o], v64, v1, v74, v3, ov ++ [(o, pv)], wv, E0, C1, E2, C3, [(b78, .cells (encId (nameOf o)).toArray 34 (0, 0))], .slice (some ⟨b78, 0, none⟩) 1 1⟩) ?_ (by repeat (first | exact Subs.nil | refine Subs.cons rfl ?_)) ?_
            · refine ⟨rfl, rfl, hS1, by simpa using Ow.new (by simp), ?_, ?_, ?_, rfl⟩
              · rw [← hs1]; simp; omega
              · rw [← hs1]; simp; omega
              · rw [← hs1]; simp
            · rintro ⟨k, s', out, w0, w1, w2, w3, ov', wv', D0, D1, D2, D3, Co, vo⟩ H1 L1 ⟨rfl, rfl, hS', hO, hz1, hz2, hk, hset⟩
              simp only at hS' hO hz1 hz2 hk hset
              show GC _ _ _ _ [(0, pt b 0), (7, vo)] H (Co ++ ((b, .cells [w0, w1, w2, w3].toArray 48 (0, 0)) :: (D0 ++ (D1 ++ (D2 ++ (D3 ++ L))))))
              obtain ⟨hlo', hlw'⟩ := hS'.lens
              have hV := hS'.view (b := b) (T := 48) (z := (0, 0)) (L := Co ++ ((b, .cells [w0, w1, w2, w3].toArray 48 (0, 0)) :: (D0 ++ (D1 ++ (D2 ++ (D3 ++ L)))))) (by omega) (by simp) (by intro x hx; simp [baseL, hx]) (by intro x hx; simp [baseL, hx]) (by intro x hx; simp [baseL, hx]) (by intro x hx; simp [baseL, hx])
              obtain ⟨⟨Aw, bw, ow, cw, lw, hwe, hcw, hnw, hw0, hw1, hw2⟩, hpw⟩ := hV.wait
              obtain ⟨ns, hns⟩ : ∃ ns, s'.wait.map (·.1) = ns := ⟨_, rfl⟩
              have hN := hV.waits
              rw [hns] at hN
              obtain ⟨An, bn, on, cn, ln, hne, hcn, hnn, hn0, hn1, hn2⟩ := hN
              refine gc_block ?_
              refine gc_seq ?_
              refine gc_seqr [(.mv, 0)] rfl ?_
              refine gr_rd rfl rfl rfl (rd_assign rfl) ?_
              refine gr_nil ?_
              refine gk_then ?_
              refine gc_seq ?_
              refine gc_seq ?_
              refine gc_seqr [(.mv, 0), (.mv, 1), (.mv, 2), (.mv, 3), (.mv, 4), (.mv, 5)] rfl ?_
              refine gr_rd rfl rfl rfl (rd_move rfl) ?_
              refine gr_rd rfl rfl rfl (rd_nilCheck rfl) ?_
              refine gr_rd rfl rfl rfl (rd_fieldAddr Tryd.fa48_1 rfl) ?_
              refine gr_rd rfl rfl rfl (rd_load1 Tryd.to25 rfl (hV.cells) (v := .slice Aw wv'.length cw) (by rw [← hwe]; rfl)) ?_
              refine gr_rd rfl rfl rfl (rd_lenS Tryd.underlying25 rfl) ?_
              refine gr_rd rfl rfl rfl (rd_move rfl) ?_
              refine gr_nil ?_
              refine gk_then ?_
              refine gc_block ?_
              refine gc_loop (fun t : Nat × Option (Nat × Nm) => [(0, pt b 0), (7, vo), (8, i64 (bestI t.2)), (82, .slice Aw wv'.length cw), (83, i64 wv'.length), (84, i64 t.1)]) (fun t H1 L1 => H = H1 ∧ Co ++ ((b, .cells [w0, w1, w2, w3].toArray 48 (0, 0)) :: (D0 ++ (D1 ++ (D2 ++ (D3 ++ L))))) = L1 ∧ t.1 ≤ wv'.length ∧ bestOf s' (s'.wait.drop t.1) t.1 t.2 = bestOf s' s'.wait 0 none ∧ ∀ m n, t.2 = some (m, n) → m < t.1 ∧ ns[m]? = some n) (fun t => wv'.length - t.1) ((0, none)) ?_ (by repeat (first | exact Subs.nil | refine Subs.cons rfl ?_)) ?_
              · exact ⟨rfl, rfl, Nat.zero_le _, rfl, fun m n h => by cases h⟩
              · rintro ⟨i, bst⟩ H1 L1 ⟨rfl, rfl, hi, hbo, hbst⟩
                simp only at hi hbo hbst
                show GC _ _ _ _ [(0, pt b 0), (7, vo), (8, i64 (bestI bst)), (82, .slice Aw wv'.length cw), (83, i64 wv'.length), (84, i64 i)] H (Co ++ ((b, .cells [w0, w1, w2, w3].toArray 48 (0, 0)) :: (D0 ++ (D1 ++ (D2 ++ (D3 ++ L))))))
                refine gc_seq ?_
                refine gc_seqr [(.mv, 0)] rfl ?_
                refine gr_rd rfl rfl rfl (rd_lss rfl rfl) ?_
                refine gr_nil ?_
                refine gk_then ?_
                refine gc_seq ?_
                refine gc_cond rfl (fun hc4 => ?_) (fun hc4 => ?_)
                · have hlt : i < wv'.length := by simpa using hc4
                  obtain ⟨hAw, hcw'⟩ := hw1 (List.ne_nil_of_length_pos (by omega))
                  have hsw := hw2 i _ (List.getElem?_eq_getElem hlt)
                  have hni : i < ns.length := by rw [← hns, List.length_map]; omega
                  have hwi : s'.wait[i]? = some (ns.getD i Nm.zero, (wv'[i]).1) := by
                    have h1 : (s'.wait.map (·.1))[i]? = some (ns.getD i Nm.zero) := by rw [hns]; exact getD_at hni
                    have h2 : (s'.wait.map (·.2))[i]? = some (wv'[i]).1 := by rw [← hS'.waitE]; simp [hlt]
                    rw [List.getElem?_map] at h1 h2
                    cases hx : s'.wait[i]? with
                    | none => rw [hx] at h1; cases h1
                    | some q => rw [hx] at h1 h2; simp only [Option.map_some, Option.some.injEq] at h1 h2; rw [← h1, ← h2]
                  have hstep := bestOf_step (s := s') (b := bst) hwi
                  refine gc_skip ?_
                  refine gk_then ?_
                  refine gc_seq ?_
                  refine gc_block ?_
                  refine gc_seq ?_
                  refine gc_seqr [(.mv, 0), (.mv, 1), (.mv, 2), (.nm, 3), (.mv, 4), (.nm, 5)] rfl ?_
                  refine gr_rd rfl rfl rfl (rd_move rfl) ?_
                  refine gr_rd rfl rfl rfl (rd_indexS Tryd.underlying25 Tryd.sizeOf38 rfl rfl hAw (by omega) (by omega)) ?_
                  refine gr_rd rfl rfl rfl (rd_loadA Tryd.ta38 rfl hcw' (by rw [Int.toNat_natCast]; exact hsw) (encOpV_length _)) ?_
                  refine gr_nx rfl rfl rfl (nx_alloc Tryd.zeroValue38 rfl) ?_; rintro _ _ _ _ ⟨b10, rfl, rfl, rfl⟩; refine ⟨trivial, ?_⟩
                  refine gr_rd rfl rfl rfl (rd_assign rfl) ?_
                  refine gr_nx0 rfl rfl (nx_store (vs := encOpV wv'[i]) Tryd.sizeOf38 rfl rfl rfl (encOpV_length _) Upd.here (by simp) (encOp_ones _ (SlT.one (hpw _ (List.getElem_mem hlt))))) ?_; rintro _ _ _ _ ⟨rfl, rfl, rfl⟩; refine ⟨trivial, ?_⟩
                  rw [wr_all (by simp)]
                  refine gr_nil ?_
                  refine gk_then ?_
                  refine gc_seq ?_
                  refine gc_draw Tryd.mixed [(.mv, 0), (.mv, 1), (.nm, 2), (.mv, 3), (.mv, 4), (.mv, 5), (.mv, 6), (.mv, 7), (.mv, 8), (.mv, 9), (.mv, 10), (.mv, 11), (.mv, 12), (.mv, 13), (.mv, 14), (.mv, 15), (.mv, 16), (.mv, 17), (.mv, 18), (.mv, 19), (.mv, 20), (.fin, 21), (.fin, 22), (.fin, 23), (.fin, 24)] (by decide +kernel) _ (List.Sublist.refl _) ?_
                  refine gr_rd rfl rfl rfl (rd_move rfl) ?_
                  refine gr_rd rfl rfl rfl (rd_loadA Tryd.ta38 rfl (Cells.own List.mem_cons_self) (Seg.all _) (encOpV_length _)) ?_
                  refine gr_nx rfl rfl rfl (nx_call Tryd.en55 rfl (rwhole_cc _ _ (hV.mono (Gh.le_refl _) (fun x hx => List.mem_cons_of_mem _ hx)) (wv'[i]).1 (wv'[i]).2 (hpw _ (List.getElem_mem hlt)).any)) ?_; rintro v91 H' L' hle ⟨rfl, rfl, rfl⟩; refine ⟨⟨(by first | exact Gh.le_refl _ | assumption | exact Gh.le_trans (by assumption) (by assumption)), (by repeat (first | exact List.Sublist.refl _ | exact List.nil_sublist _ | apply List.Sublist.cons_cons | apply List.Sublist.cons | apply List.Sublist.append (List.Sublist.refl _) | refine List.Sublist.trans ?_ (List.sublist_append_right _ _)))⟩, ?_⟩
                  refine gr_rd rfl rfl rfl (rd_move rfl) ?_
                  refine gr_split rfl (fun hg3 => ?_) (fun hg3 => ?_)
                  · skip
                    refine gr_rd rfl rfl rfl (rd_move rfl) ?_
                    refine gr_rd rfl rfl rfl (rd_lss rfl rfl) ?_
                    refine gr_rd rfl rfl rfl (rd_move rfl) ?_
                    refine gr_split rfl (fun hg6 => ?_) (fun hg6 => ?_)
                    · have hb0 : bst = none := by cases bst with | none => rfl | some q => exact absurd (of_decide_eq_true hg6) (by obtain ⟨m, nm⟩ := q; show ¬ ((m : Int) < 0); omega)
                      refine gr_no rfl rfl rfl ?_
                      refine gr_no rfl rfl rfl ?_
                      refine gr_no rfl rfl rfl ?_
                      refine gr_no rfl rfl rfl ?_
                      refine gr_no rfl rfl rfl ?_
                      refine gr_no rfl rfl rfl ?_
                      refine gr_no rfl rfl rfl ?_
                      refine gr_no rfl rfl rfl ?_
                      refine gr_no rfl rfl rfl ?_
                      refine gr_no rfl rfl rfl ?_
                      refine gr_no rfl rfl rfl ?_
                      refine gr_no rfl rfl rfl ?_
                      refine gr_no rfl rfl rfl ?_
                      refine gr_no rfl rfl rfl ?_
                      refine gr_no rfl rfl rfl ?_
                      refine gr_no rfl rfl rfl ?_
                      (first | (refine gr_fin rfl rfl rfl (Rd.nx (rd_pick_t rfl rfl)) ?_; rintro _ _ _ _ ⟨rfl, rfl, rfl⟩) | (refine gr_fin rfl rfl rfl (Rd.nx (rd_pick_f rfl rfl)) ?_; rintro _ _ _ _ ⟨rfl, rfl, rfl⟩))
                      (first | (refine gr_fin rfl rfl rfl (Rd.nx (rd_pick_t rfl rfl)) ?_; rintro _ _ _ _ ⟨rfl, rfl, rfl⟩) | (refine gr_fin rfl rfl rfl (Rd.nx (rd_pick_f rfl rfl)) ?_; rintro _ _ _ _ ⟨rfl, rfl, rfl⟩))
                      refine gr_nil ?_
                      refine gk_then ?_
                      refine gc_yes rfl ?_
                      refine gc_seqr [(.mv, 0), (.mv, 1)] rfl ?_
                      refine gr_rd rfl rfl rfl (rd_move rfl) ?_
                      refine gr_rd rfl rfl rfl (rd_assign rfl) ?_
                      refine gr_nil ?_
                      refine gk_inBlock ?_
                      refine gk_then ?_
                      refine gc_seqr [(.mv, 0), (.mv, 1)] rfl ?_
                      (first | refine gr_rd rfl rfl rfl (rd_add rfl rfl (IntWalk.i64_in _ (by omega))) ?_ | refine gr_rd rfl rfl rfl (rd_add rfl rfl rfl) ?_)
                      refine gr_rd rfl rfl rfl (rd_move rfl) ?_
                      refine gr_nil ?_
                      refine gk_drop (L' := Co ++ ((b, .cells [w0, w1, w2, w3].toArray 48 (0, 0)) :: (D0 ++ (D1 ++ (D2 ++ (D3 ++ L)))))) (by repeat (first | exact List.Sublist.refl _ | apply List.Sublist.cons_cons | apply List.Sublist.cons | apply List.Sublist.append (List.Sublist.refl _) | refine List.Sublist.trans ?_ (List.sublist_append_right _ _))) ?_
                      first
                        | (have hne' : bestOf s' (s'.wait.drop (i + 1)) (i + 1) (some (i, ns.getD i Nm.zero)) = bestOf s' s'.wait 0 none := by
                             rw [← hbo, hstep]
                             first
                               | (rw [hb0]; simp only [hg3, Bool.and_self, if_true]; done)
                               | (simp only [hg3, hc5, Bool.and_self, if_true]; done)
                           refine gk_round (i + 1, some (i, ns.getD i Nm.zero)) ?_ ⟨rfl, rfl, by simp only; omega, hne', fun m n h => ?_⟩ (by repeat (first | exact Subs.nil | refine Subs.cons rfl ?_))
                           · show wv'.length - (i + 1) < wv'.length - i
                             omega
                           · cases h; exact ⟨by simp only; omega, getD_at hni⟩)
                        | (refine gk_round (i + 1, _) ?_ ⟨rfl, rfl, by simp only; omega, ?_, fun m n h => ⟨by have := (hbst m n h).1; simp only; omega, (hbst m n h).2⟩⟩ (by repeat (first | exact Subs.nil | refine Subs.cons rfl ?_))
                           · show wv'.length - (i + 1) < wv'.length - i
                             omega
                           · simp only
                             rw [← hbo, hstep]
                             first
                               | (simp only [hg3, Bool.false_and, Bool.false_eq_true, if_false]; done)
                               | (simp only [hg3, hc5, Bool.and_false, Bool.false_eq_true, if_false]; done))
                    · obtain ⟨m, nm, rfl⟩ : ∃ m nm, bst = some (m, nm) := by cases bst with | none => simp [bestI] at hg6 | some q => exact ⟨q.1, q.2, rfl⟩
                      have hbi : bestI (some (m, nm)) = (m : Int) := rfl
                      obtain ⟨hm1, hm2⟩ := hbst m nm rfl
                      obtain ⟨hAn, hcn', hsi⟩ := ids_at2 (i := (i : Int)) hn1 hn2 hni rfl
                      obtain ⟨_, _, hsm⟩ := ids_at2 (i := bestI (some (m, nm))) (j := m) hn1 hn2 (by omega) rfl
                      have hnm : ns.getD m Nm.zero = nm := by rw [List.getD_eq_getElem?_getD, hm2]; rfl
                      rw [hnm] at hsm
                      refine gr_rd rfl rfl rfl (rd_move rfl) ?_
                      refine gr_rd rfl rfl rfl (rd_nilCheck rfl) ?_
                      refine gr_rd rfl rfl rfl (rd_fieldAddr Tryd.fa48_3 rfl) ?_
                      refine gr_rd rfl rfl rfl (rd_load1 Tryd.to29 rfl (mono_cons hV.cells) (v := .slice An ns.length cn) (by rw [← hne]; rfl)) ?_
                      refine gr_rd rfl rfl rfl (rd_move rfl) ?_
                      refine gr_rd rfl rfl rfl (rd_indexS Tryd.underlying29 Tryd.sizeOf34 rfl rfl hAn (by omega) (by omega)) ?_
                      refine gr_rd rfl rfl rfl (rd_loadA Tryd.ta34 rfl (mono_cons hcn') hsi (encId_length _)) ?_
                      refine gr_rd rfl rfl rfl (rd_move rfl) ?_
                      refine gr_rd rfl rfl rfl (rd_nilCheck rfl) ?_
                      refine gr_rd rfl rfl rfl (rd_fieldAddr Tryd.fa48_3 rfl) ?_
                      refine gr_rd rfl rfl rfl (rd_load1 Tryd.to29 rfl (mono_cons hV.cells) (v := .slice An ns.length cn) (by rw [← hne]; rfl)) ?_
                      refine gr_rd rfl rfl rfl (rd_move rfl) ?_
                      refine gr_rd rfl rfl rfl (rd_indexS Tryd.underlying29 Tryd.sizeOf34 rfl rfl hAn (by omega) (by omega)) ?_
                      refine gr_rd rfl rfl rfl (rd_loadA Tryd.ta34 rfl (mono_cons hcn') hsm (encId_length _)) ?_
                      refine gr_fin rfl rfl rfl (nx_call Tryd.en57 rfl (rcmp_cc _ _ _ _)) ?_; rintro v110 H' L' hle ⟨rfl, rfl, rfl⟩
                      (refine gr_fin rfl rfl rfl (Rd.nx (rd_lss rfl rfl)) ?_; rintro _ _ _ _ ⟨rfl, rfl, rfl⟩)
                      (first | (refine gr_fin rfl rfl rfl (Rd.nx (rd_pick_t rfl rfl)) ?_; rintro _ _ _ _ ⟨rfl, rfl, rfl⟩) | (refine gr_fin rfl rfl rfl (Rd.nx (rd_pick_f rfl rfl)) ?_; rintro _ _ _ _ ⟨rfl, rfl, rfl⟩))
                      (first | (refine gr_fin rfl rfl rfl (Rd.nx (rd_pick_t rfl rfl)) ?_; rintro _ _ _ _ ⟨rfl, rfl, rfl⟩) | (refine gr_fin rfl rfl rfl (Rd.nx (rd_pick_f rfl rfl)) ?_; rintro _ _ _ _ ⟨rfl, rfl, rfl⟩))
                      refine gr_nil ?_
                      refine gk_then ?_
                      refine gc_cond rfl (fun hc5 => ?_) (fun hc5 => ?_)
                      · skip
                        refine gc_seqr [(.mv, 0), (.mv, 1)] rfl ?_
                        refine gr_rd rfl rfl rfl (rd_move rfl) ?_
                        refine gr_rd rfl rfl rfl (rd_assign rfl) ?_
                        refine gr_nil ?_
                        refine gk_inBlock ?_
                        refine gk_then ?_
                        refine gc_seqr [(.mv, 0), (.mv, 1)] rfl ?_
                        (first | refine gr_rd rfl rfl rfl (rd_add rfl rfl (IntWalk.i64_in _ (by omega))) ?_ | refine gr_rd rfl rfl rfl (rd_add rfl rfl rfl) ?_)
                        refine gr_rd rfl rfl rfl (rd_move rfl) ?_
                        refine gr_nil ?_
                        refine gk_drop (L' := Co ++ ((b, .cells [w0, w1, w2, w3].toArray 48 (0, 0)) :: (D0 ++ (D1 ++ (D2 ++ (D3 ++ L)))))) (by repeat (first | exact List.Sublist.refl _ | apply List.Sublist.cons_cons | apply List.Sublist.cons | apply List.Sublist.append (List.Sublist.refl _) | refine List.Sublist.trans ?_ (List.sublist_append_right _ _))) ?_
                        first
                          | (have hne' : bestOf s' (s'.wait.drop (i + 1)) (i + 1) (some (i, ns.getD i Nm.zero)) = bestOf s' s'.wait 0 none := by
                               rw [← hbo, hstep]
                               first
                                 | (rw [hb0]; simp only [hg3, Bool.and_self, if_true]; done)
                                 | (simp only [hg3, hc5, Bool.and_self, if_true]; done)
                             refine gk_round (i + 1, some (i, ns.getD i Nm.zero)) ?_ ⟨rfl, rfl, by simp only; omega, hne', fun m n h => ?_⟩ (by repeat (first | exact Subs.nil | refine Subs.cons rfl ?_))
                             · show wv'.length - (i + 1) < wv'.length - i
                               omega
                             · cases h; exact ⟨by simp only; omega, getD_at hni⟩)
                          | (refine gk_round (i + 1, _) ?_ ⟨rfl, rfl, by simp only; omega, ?_, fun m n h => ⟨by have := (hbst m n h).1; simp only; omega, (hbst m n h).2⟩⟩ (by repeat (first | exact Subs.nil | refine Subs.cons rfl ?_))
                             · show wv'.length - (i + 1) < wv'.length - i
                               omega
                             · simp only
                               rw [← hbo, hstep]
                               first
                                 | (simp only [hg3, Bool.false_and, Bool.false_eq_true, if_false]; done)
                                 | (simp only [hg3, hc5, Bool.and_false, Bool.false_eq_true, if_false]; done))
                      · skip
                        refine gc_skip ?_
                        refine gk_inBlock ?_
                        refine gk_then ?_
                        refine gc_seqr [(.mv, 0), (.mv, 1)] rfl ?_
                        (first | refine gr_rd rfl rfl rfl (rd_add rfl rfl (IntWalk.i64_in _ (by omega))) ?_ | refine gr_rd rfl rfl rfl (rd_add rfl rfl rfl) ?_)
                        refine gr_rd rfl rfl rfl (rd_move rfl) ?_
                        refine gr_nil ?_
                        refine gk_drop (L' := Co ++ ((b, .cells [w0, w1, w2, w3].toArray 48 (0, 0)) :: (D0 ++ (D1 ++ (D2 ++ (D3 ++ L)))))) (by repeat (first | exact List.Sublist.refl _ | apply List.Sublist.cons_cons | apply List.Sublist.cons | apply List.Sublist.append (List.Sublist.refl _) | refine List.Sublist.trans ?_ (List.sublist_append_right _ _))) ?_
                        first
                          | (have hne' : bestOf s' (s'.wait.drop (i + 1)) (i + 1) (some (i, ns.getD i Nm.zero)) = bestOf s' s'.wait 0 none := by
                               rw [← hbo, hstep]
                               first
                                 | (rw [hb0]; simp only [hg3, Bool.and_self, if_true]; done)
                                 | (simp only [hg3, hc5, Bool.and_self, if_true]; done)
                             refine gk_round (i + 1, some (i, ns.getD i Nm.zero)) ?_ ⟨rfl, rfl, by simp only; omega, hne', fun m n h => ?_⟩ (by repeat (first | exact Subs.nil | refine Subs.cons rfl ?_))
                             · show wv'.length - (i + 1) < wv'.length - i
                               omega
                             · cases h; exact ⟨by simp only; omega, getD_at hni⟩)
                          | (refine gk_round (i + 1, _) ?_ ⟨rfl, rfl, by simp only; omega, ?_, fun m n h => ⟨by have := (hbst m n h).1; simp only; omega, (hbst m n h).2⟩⟩ (by repeat (first | exact Subs.nil | refine Subs.cons rfl ?_))
                             · show wv'.length - (i + 1) < wv'.length - i
                               omega
                             · simp only
                               rw [← hbo, hstep]
                               first
                                 | (simp only [hg3, Bool.false_and, Bool.false_eq_true, if_false]; done)
                                 | (simp only [hg3, hc5, Bool.and_false, Bool.false_eq_true, if_false]; done))
                  · skip
                    refine gr_no rfl rfl rfl ?_
                    refine gr_no rfl rfl rfl ?_
                    refine gr_no rfl rfl rfl ?_
                    refine gr_no rfl rfl rfl ?_
                    refine gr_no rfl rfl rfl ?_
                    refine gr_no rfl rfl rfl ?_
                    refine gr_no rfl rfl rfl ?_
                    refine gr_no rfl rfl rfl ?_
                    refine gr_no rfl rfl rfl ?_
                    refine gr_no rfl rfl rfl ?_
                    refine gr_no rfl rfl rfl ?_
                    refine gr_no rfl rfl rfl ?_
                    refine gr_no rfl rfl rfl ?_
                    refine gr_no rfl rfl rfl ?_
                    refine gr_no rfl rfl rfl ?_
                    refine gr_no rfl rfl rfl ?_
                    refine gr_no rfl rfl rfl ?_
                    refine gr_no rfl rfl rfl ?_
                    refine gr_no rfl rfl rfl ?_
                    refine gr_no rfl rfl rfl ?_
                    (first | (refine gr_fin rfl rfl rfl (Rd.nx (rd_pick_t rfl rfl)) ?_; rintro _ _ _ _ ⟨rfl, rfl, rfl⟩) | (refine gr_fin rfl rfl rfl (Rd.nx (rd_pick_f rfl rfl)) ?_; rintro _ _ _ _ ⟨rfl, rfl, rfl⟩))
                    refine gr_nil ?_
                    refine gk_then ?_
                    refine gc_no rfl ?_
                    refine gc_skip ?_
                    refine gk_inBlock ?_
                    refine gk_then ?_
                    refine gc_seqr [(.mv, 0), (.mv, 1)] rfl ?_
                    (first | refine gr_rd rfl rfl rfl (rd_add rfl rfl (IntWalk.i64_in _ (by omega))) ?_ | refine gr_rd rfl rfl rfl (rd_add rfl rfl rfl) ?_)
                    refine gr_rd rfl rfl rfl (rd_move rfl) ?_
                    refine gr_nil ?_
                    refine gk_drop (L' := Co ++ ((b, .cells [w0, w1, w2, w3].toArray 48 (0, 0)) :: (D0 ++ (D1 ++ (D2 ++ (D3 ++ L)))))) (by repeat (first | exact List.Sublist.refl _ | apply List.Sublist.cons_cons | apply List.Sublist.cons | apply List.Sublist.append (List.Sublist.refl _) | refine List.Sublist.trans ?_ (List.sublist_append_right _ _))) ?_
                    first
                      | (have hne' : bestOf s' (s'.wait.drop (i + 1)) (i + 1) (some (i, ns.getD i Nm.zero)) = bestOf s' s'.wait 0 none := by
                           rw [← hbo, hstep]
                           first
                             | (rw [hb0]; simp only [hg3, Bool.and_self, if_true]; done)
                             | (simp only [hg3, hc5, Bool.and_self, if_true]; done)
                         refine gk_round (i + 1, some (i, ns.getD i Nm.zero)) ?_ ⟨rfl, rfl, by simp only; omega, hne', fun m n h => ?_⟩ (by repeat (first | exact Subs.nil | refine Subs.cons rfl ?_))
                         · show wv'.length - (i + 1) < wv'.length - i
                           omega
                         · cases h; exact ⟨by simp only; omega, getD_at hni⟩)
                      | (refine gk_round (i + 1, _) ?_ ⟨rfl, rfl, by simp only; omega, ?_, fun m n h => ⟨by have := (hbst m n h).1; simp only; omega, (hbst m n h).2⟩⟩ (by repeat (first | exact Subs.nil | refine Subs.cons rfl ?_))
                         · show wv'.length - (i + 1) < wv'.length - i
                           omega
                         · simp only
                           rw [← hbo, hstep]
                           first
                             | (simp only [hg3, Bool.false_and, Bool.false_eq_true, if_false]; done)
                             | (simp only [hg3, hc5, Bool.and_false, Bool.false_eq_true, if_false]; done))
                · have hil : i = wv'.length := by simp at hc4; omega
                  subst hil
                  rw [hlw', List.drop_length] at hbo
                  have hbo2 : bst = bestOf s' s'.wait 0 none := hbo
                  refine gc_exit ?_
                  refine gk_exit_then ?_
                  refine gk_exit_then ?_
                  refine gk_here ?_
                  refine gk_then ?_
                  refine gc_seq ?_
                  refine gc_seq ?_
                  refine gc_seqr [(.mv, 0), (.mv, 1)] rfl ?_
                  refine gr_rd rfl rfl rfl (rd_move rfl) ?_
                  refine gr_rd rfl rfl rfl (rd_lss rfl rfl) ?_
                  refine gr_nil ?_
                  refine gk_then ?_
                  refine gc_cond rfl (fun hc6 => ?_) (fun hc6 => ?_)
                  · have hb0 : bst = none := by cases bst with | none => rfl | some q => exact absurd (of_decide_eq_true hc6) (by obtain ⟨m, nm⟩ := q; show ¬ ((m : Int) < 0); omega)
                    refine gc_seq ?_
                    refine gc_seqr [(.mv, 0), (.mv, 1), (.mv, 2)] rfl ?_
                    refine gr_rd rfl rfl rfl (rd_move rfl) ?_
                    refine gr_rd rfl rfl rfl (rd_assign rfl) ?_
                    refine gr_rd rfl rfl rfl (rd_assign rfl) ?_
                    refine gr_nil ?_
                    refine gk_then ?_
                    refine gc_ret ?_
                    refine gk_ret_then ?_
                    refine gk_ret_inBlock ?_
                    refine gk_ret_then ?_
                    refine gk_ret_inBlock ?_
                    refine gk_result (L' := Co ++ ((b, .cells [w0, w1, w2, w3].toArray 48 (0, 0)) :: (D0 ++ (D1 ++ (D2 ++ (D3 ++ L)))))) (.inl rfl) _ (res2 rfl rfl rfl) (List.Sublist.refl _) (Gh.le_refl _) ?_
                    have hfin : Tr.settle k s' out = (s', out) := by
                      cases k with
                      | zero => rfl
                      | succ k => rw [Tr.settle, ← hbo2, hb0]
                    rw [hfin] at hset
                    rw [← hset] at ht
                    exact ⟨w0, w1, w2, w3, ov', wv', D0, D1, D2, D3, Co, vo, by rw [ht]; exact hS', by rw [ht]; exact hO, by rw [ht], rfl, rfl⟩
                  · obtain ⟨m, nm, hbm⟩ : ∃ m nm, bst = some (m, nm) := by cases bst with | none => exact absurd hc6 (by decide) | some q => exact ⟨q.1, q.2, rfl⟩
                    obtain ⟨hm1, hm2⟩ := hbst m nm hbm
                    subst hbm
                    have hbi : bestI (some (m, nm)) = (m : Int) := rfl
                    have hnl : ns.length = wv'.length := by rw [← hns, List.length_map]; omega
                    obtain ⟨hAw, hcw'⟩ := hw1 (List.ne_nil_of_length_pos (by omega))
                    have hsw := hw2 m _ (List.getElem?_eq_getElem hm1)
                    obtain ⟨hAn, hcn', hsm⟩ := ids_at2 (i := bestI (some (m, nm))) (j := m) hn1 hn2 (by omega) rfl
                    have hnm : ns.getD m Nm.zero = nm := by rw [List.getD_eq_getElem?_getD, hm2]; rfl
                    rw [hnm] at hsm
                    refine gc_skip ?_
                    refine gk_then ?_
                    refine gc_cut (fun q : Nat × Nat => [(0, pt b 0), (7, vo), (8, i64 (bestI (some (m, nm)))), (11, pt q.1 0), (12, pt q.2 0)]) (fun q H1 L1 => H = H1 ∧ (q.1, .cells (encOpV wv'[m]).toArray 38 (0, 0)) :: (q.2, .cells (encId nm).toArray 34 (0, 0)) :: (Co ++ ((b, .cells [w0, w1, w2, w3].toArray 48 (0, 0)) :: (D0 ++ (D1 ++ (D2 ++ (D3 ++ L)))))) = L1) ?_ ?_
                    · skip
                      refine gc_draw2 Tryd.mixed [(.mv, 0), (.mv, 1), (.mv, 2), (.mv, 3), (.mv, 4), (.mv, 5), (.mv, 6), (.mv, 7), (.mv, 8), (.mv, 9), (.mv, 10), (.mv, 11), (.mv, 12), (.mv, 13)] 14 15 [(.nm, 16), (.fin, 17)] (by decide +kernel) _ (List.Sublist.refl _) ?_ ?_
                      · skip
                        show GR _ _ _ _ _ _ [(.mv, 0), (.mv, 1), (.mv, 2), (.mv, 3), (.mv, 4), (.mv, 5), (.mv, 6), (.mv, 7), (.mv, 8), (.mv, 9), (.mv, 10), (.mv, 11), (.mv, 12), (.mv, 13), (.nm, 14), (.nm, 15), (.nm, 16), (.fin, 17)] _ _
                        refine gr_rd rfl rfl rfl (rd_move rfl) ?_
                        refine gr_rd rfl rfl rfl (rd_nilCheck rfl) ?_
                        refine gr_rd rfl rfl rfl (rd_fieldAddr Tryd.fa48_1 rfl) ?_
                        refine gr_rd rfl rfl rfl (rd_load1 Tryd.to25 rfl hV.cells (v := .slice Aw wv'.length cw) (by rw [← hwe]; rfl)) ?_
                        refine gr_rd rfl rfl rfl (rd_move rfl) ?_
                        refine gr_rd rfl rfl rfl (rd_indexS Tryd.underlying25 Tryd.sizeOf38 rfl rfl hAw (by omega) (by omega)) ?_
                        refine gr_rd rfl rfl rfl (rd_loadA Tryd.ta38 rfl hcw' (show Seg lw (ow + (bestI (some (m, nm))).toNat * 38) (encOpV wv'[m]) from by rw [hbi, Int.toNat_natCast]; exact hsw) (encOpV_length _)) ?_
                        refine gr_rd rfl rfl rfl (rd_move rfl) ?_
                        refine gr_rd rfl rfl rfl (rd_nilCheck rfl) ?_
                        refine gr_rd rfl rfl rfl (rd_fieldAddr Tryd.fa48_3 rfl) ?_
                        refine gr_rd rfl rfl rfl (rd_load1 Tryd.to29 rfl hV.cells (v := .slice An ns.length cn) (by rw [← hne]; rfl)) ?_
                        refine gr_rd rfl rfl rfl (rd_move rfl) ?_
                        refine gr_rd rfl rfl rfl (rd_indexS Tryd.underlying29 Tryd.sizeOf34 rfl rfl hAn (by omega) (by omega)) ?_
                        refine gr_rd rfl rfl rfl (rd_loadA Tryd.ta34 rfl hcn' hsm (encId_length _)) ?_
                        refine gr_nx rfl rfl rfl (nx_alloc Tryd.zeroValue38 rfl) ?_; rintro _ _ _ _ ⟨b11, rfl, rfl, rfl⟩; refine ⟨⟨(by first | exact Gh.le_refl _ | assumption | exact Gh.le_trans (by assumption) (by assumption)), (by repeat (first | exact List.Sublist.refl _ | exact List.nil_sublist _ | apply List.Sublist.cons_cons | apply List.Sublist.cons | apply List.Sublist.append (List.Sublist.refl _) | refine List.Sublist.trans ?_ (List.sublist_append_right _ _)))⟩, ?_⟩
                        refine gr_nx rfl rfl rfl (nx_alloc Tryd.zeroValue34 rfl) ?_; rintro _ _ _ _ ⟨b12, rfl, rfl, rfl⟩; refine ⟨⟨(by first | exact Gh.le_refl _ | assumption | exact Gh.le_trans (by assumption) (by assumption)), (by repeat (first | exact List.Sublist.refl _ | exact List.nil_sublist _ | apply List.Sublist.cons_cons | apply List.Sublist.cons | apply List.Sublist.append (List.Sublist.refl _) | refine List.Sublist.trans ?_ (List.sublist_append_right _ _)))⟩, ?_⟩
                        refine gr_nx0 rfl rfl (nx_store (vs := encOpV wv'[m]) Tryd.sizeOf38 rfl rfl rfl (encOpV_length _) (by repeat (first | exact Upd.here | exact Upd.appl (by assumption) | apply Upd.there | apply Upd.app)) (by simp) (encOp_ones _ (SlT.one (hpw _ (List.getElem_mem hm1))))) ?_; rintro _ _ _ _ ⟨rfl, rfl, rfl⟩; refine ⟨⟨(by first | exact Gh.le_refl _ | assumption | exact Gh.le_trans (by assumption) (by assumption)), (by repeat (first | exact List.Sublist.refl _ | exact List.nil_sublist _ | apply List.Sublist.cons_cons | apply List.Sublist.cons | apply List.Sublist.append (List.Sublist.refl _) | refine List.Sublist.trans ?_ (List.sublist_append_right _ _)))⟩, ?_⟩
                        rw [wr_all (by simp)]
                        refine gr_fin0 rfl rfl (nx_store (vs := encId nm) Tryd.sizeOf34 rfl rfl rfl (encId_length _) (by repeat (first | exact Upd.here | exact Upd.appl (by assumption) | apply Upd.there | apply Upd.app)) (by simp) (encId_ones _)) ?_; rintro _ _ _ _ ⟨rfl, rfl, rfl⟩
                        rw [wr_all (by simp)]
                        refine gr_nil ?_
                        first | exact gk_cut (b11, b12) ⟨rfl, rfl⟩ (by repeat (first | exact Subs.nil | refine Subs.cons rfl ?_)) | exact gk_perm (List.Perm.swap _ _ _) (gk_cut (b11, b12) ⟨rfl, rfl⟩ (by repeat (first | exact Subs.nil | refine Subs.cons rfl ?_)))
                      · skip
                        show GR _ _ _ _ _ _ [(.mv, 0), (.mv, 1), (.mv, 2), (.mv, 3), (.mv, 4), (.mv, 5), (.mv, 6), (.mv, 7), (.mv, 8), (.mv, 9), (.mv, 10), (.mv, 11), (.mv, 12), (.mv, 13), (.nm, 15), (.nm, 14), (.nm, 16), (.fin, 17)] _ _
                        refine gr_rd rfl rfl rfl (rd_move rfl) ?_
                        refine gr_rd rfl rfl rfl (rd_nilCheck rfl) ?_
                        refine gr_rd rfl rfl rfl (rd_fieldAddr Tryd.fa48_1 rfl) ?_
                        refine gr_rd rfl rfl rfl (rd_load1 Tryd.to25 rfl hV.cells (v := .slice Aw wv'.length cw) (by rw [← hwe]; rfl)) ?_
                        refine gr_rd rfl rfl rfl (rd_move rfl) ?_
                        refine gr_rd rfl rfl rfl (rd_indexS Tryd.underlying25 Tryd.sizeOf38 rfl rfl hAw (by omega) (by omega)) ?_
                        refine gr_rd rfl rfl rfl (rd_loadA Tryd.ta38 rfl hcw' (show Seg lw (ow + (bestI (some (m, nm))).toNat * 38) (encOpV wv'[m]) from by rw [hbi, Int.toNat_natCast]; exact hsw) (encOpV_length _)) ?_
                        refine gr_rd rfl rfl rfl (rd_move rfl) ?_
                        refine gr_rd rfl rfl rfl (rd_nilCheck rfl) ?_
                        refine gr_rd rfl rfl rfl (rd_fieldAddr Tryd.fa48_3 rfl) ?_
                        refine gr_rd rfl rfl rfl (rd_load1 Tryd.to29 rfl hV.cells (v := .slice An ns.length cn) (by rw [← hne]; rfl)) ?_
                        refine gr_rd rfl rfl rfl (rd_move rfl) ?_
                        refine gr_rd rfl rfl rfl (rd_indexS Tryd.underlying29 Tryd.sizeOf34 rfl rfl hAn (by omega) (by omega)) ?_
                        refine gr_rd rfl rfl rfl (rd_loadA Tryd.ta34 rfl hcn' hsm (encId_length _)) ?_
                        refine gr_nx rfl rfl rfl (nx_alloc Tryd.zeroValue34 rfl) ?_; rintro _ _ _ _ ⟨b12, rfl, rfl, rfl⟩; refine ⟨⟨(by first | exact Gh.le_refl _ | assumption | exact Gh.le_trans (by assumption) (by assumption)), (by repeat (first | exact List.Sublist.refl _ | exact List.nil_sublist _ | apply List.Sublist.cons_cons | apply List.Sublist.cons | apply List.Sublist.append (List.Sublist.refl _) | refine List.Sublist.trans ?_ (List.sublist_append_right _ _)))⟩, ?_⟩
                        refine gr_nx rfl rfl rfl (nx_alloc Tryd.zeroValue38 rfl) ?_; rintro _ _ _ _ ⟨b11, rfl, rfl, rfl⟩; refine ⟨⟨(by first | exact Gh.le_refl _ | assumption | exact Gh.le_trans (by assumption) (by assumption)), (by repeat (first | exact List.Sublist.refl _ | exact List.nil_sublist _ | apply List.Sublist.cons_cons | apply List.Sublist.cons | apply List.Sublist.append (List.Sublist.refl _) | refine List.Sublist.trans ?_ (List.sublist_append_right _ _)))⟩, ?_⟩
                        refine gr_nx0 rfl rfl (nx_store (vs := encOpV wv'[m]) Tryd.sizeOf38 rfl rfl rfl (encOpV_length _) (by repeat (first | exact Upd.here | exact Upd.appl (by assumption) | apply Upd.there | apply Upd.app)) (by simp) (encOp_ones _ (SlT.one (hpw _ (List.getElem_mem hm1))))) ?_; rintro _ _ _ _ ⟨rfl, rfl, rfl⟩; refine ⟨⟨(by first | exact Gh.le_refl _ | assumption | exact Gh.le_trans (by assumption) (by assumption)), (by repeat (first | exact List.Sublist.refl _ | exact List.nil_sublist _ | apply List.Sublist.cons_cons | apply List.Sublist.cons | apply List.Sublist.append (List.Sublist.refl _) | refine List.Sublist.trans ?_ (List.sublist_append_right _ _)))⟩, ?_⟩
                        rw [wr_all (by simp)]
                        refine gr_fin0 rfl rfl (nx_store (vs := encId nm) Tryd.sizeOf34 rfl rfl rfl (encId_length _) (by repeat (first | exact Upd.here | exact Upd.appl (by assumption) | apply Upd.there | apply Upd.app)) (by simp) (encId_ones _)) ?_; rintro _ _ _ _ ⟨rfl, rfl, rfl⟩
                        rw [wr_all (by simp)]
                        refine gr_nil ?_
                        first | exact gk_cut (b11, b12) ⟨rfl, rfl⟩ (by repeat (first | exact Subs.nil | refine Subs.cons rfl ?_)) | exact gk_perm (List.Perm.swap _ _ _) (gk_cut (b11, b12) ⟨rfl, rfl⟩ (by repeat (first | exact Subs.nil | refine Subs.cons rfl ?_)))
                    · rintro ⟨b11, b12⟩ H1 L1 ⟨rfl, rfl⟩
                      show GC _ _ _ _ [(0, pt b 0), (7, vo), (8, i64 (bestI (some (m, nm)))), (11, pt b11 0), (12, pt b12 0)] H ((b11, .cells (encOpV wv'[m]).toArray 38 (0, 0)) :: (b12, .cells (encId nm).toArray 34 (0, 0)) :: (Co ++ ((b, .cells [w0, w1, w2, w3].toArray 48 (0, 0)) :: (D0 ++ (D1 ++ (D2 ++ (D3 ++ L)))))))
                      obtain ⟨ow', hwo, hwhole⟩ := best_at hbo2.symm
                      have how : (wv'[m]).1 = ow' := by
                        have h1 := congrArg (fun l => l[m]?) hS'.waitE
                        simp only [List.getElem?_map, hwo, List.getElem?_eq_getElem hm1] at h1
                        simpa using h1
                      have hall2 : ∀ n ∈ (wv'[m]).1.preds, has s'.ops n = true := by rw [how]; simpa [whole] using hwhole
                      have hones : ∀ x ∈ wv', oneCells (encOpV x) := fun x hx => encOp_ones _ (SlT.one (hpw _ hx))
                      have hOw : Ow 38 38 D1 (.slice Aw wv'.length cw) wv'.length (wv'.flatMap encOpV) := by rw [← hwe]; exact hS'.wait
                      have hOn : Ow 34 32 D3 (.slice An ns.length cn) ns.length (ns.flatMap encId) := by rw [← hne, ← hns, List.length_map]; exact hS'.waits
                      have hml : m < ns.length := by omega
                      have hdp := hpw _ (List.getElem_mem hm1)
                      refine gc_seq ?_
                      refine gc_draw Tryd.mixed [(.mv, 0), (.mv, 2), (.mv, 3), (.mv, 4), (.mv, 5), (.mv, 6), (.mv, 7), (.mv, 9), (.mv, 10), (.mv, 11), (.mv, 12), (.mv, 13), (.mv, 14), (.mv, 15), (.nm, 1), (.nm, 8), (.nm, 16), (.mv, 17), (.mv, 18), (.fin, 19)] (by decide +kernel) [(b, .cells [w0, w1, w2, w3].toArray 48 (0, 0))] ((List.Sublist.cons _ (List.Sublist.cons _ ((List.Sublist.cons_cons _ (List.nil_sublist _)).trans (List.sublist_append_right _ _))))) ?_
                      refine gr_rd rfl rfl rfl (rd_move rfl) ?_
                      refine gr_rd rfl rfl rfl (rd_move rfl) ?_
                      refine gr_rd rfl rfl rfl (rd_nilCheck rfl) ?_
                      refine gr_rd rfl rfl rfl (rd_fieldAddr Tryd.fa48_1 rfl) ?_
                      refine gr_rd rfl rfl rfl (rd_load1 Tryd.to25 rfl (Cells.own (l := [w0, w1, w2, w3]) (T := 48) (z := (0, 0)) (by simp [baseL])) (v := .slice Aw wv'.length cw) (by rw [← hwe]; rfl)) ?_
                      refine gr_rd rfl rfl rfl (rd_move rfl) ?_
                      refine gr_rd rfl rfl rfl (rd_sliceHiA Tryd.underlying25 Tryd.sizeOf38 rfl rfl (h := m) hbi (by omega)) ?_
                      refine gr_rd rfl rfl rfl (rd_move rfl) ?_
                      refine gr_rd rfl rfl rfl (rd_nilCheck rfl) ?_
                      refine gr_rd rfl rfl rfl (rd_fieldAddr Tryd.fa48_1 rfl) ?_
                      refine gr_rd rfl rfl rfl (rd_load1 Tryd.to25 rfl (Cells.own (l := [w0, w1, w2, w3]) (T := 48) (z := (0, 0)) (by simp [baseL])) (v := .slice Aw wv'.length cw) (by rw [← hwe]; rfl)) ?_
                      refine gr_rd rfl rfl rfl (rd_move rfl) ?_
                      (first | refine gr_rd rfl rfl rfl (rd_add rfl rfl (IntWalk.i64_in _ (by omega))) ?_ | refine gr_rd rfl rfl rfl (rd_add rfl rfl rfl) ?_)
                      refine gr_rd rfl rfl rfl (rd_sliceLoA Tryd.underlying25 Tryd.sizeOf38 rfl rfl (l := m + 1) (by omega) (by omega) (by omega)) ?_
                      refine gr_nx rfl rfl rfl (nx_buildSlice (vs := []) Tryd.underlying25 Tryd.sizeOf38 Tryd.zeroValue38 rfl rfl rfl rfl (fun v hv => by cases hv) rfl rfl rfl) ?_; rintro _ _ _ _ ⟨b134, rfl, rfl, rfl⟩; refine ⟨⟨(by first | exact Gh.le_refl _ | assumption | exact Gh.le_trans (by assumption) (by assumption)), (by repeat (first | exact List.Sublist.refl _ | exact List.nil_sublist _ | apply List.Sublist.cons_cons | apply List.Sublist.cons | apply List.Sublist.append (List.Sublist.refl _) | refine List.Sublist.trans ?_ (List.sublist_append_right _ _)))⟩, ?_⟩
                      refine gr_nx rfl rfl rfl (nx_append (m := m) Tryd.app25_25 rfl rfl (Ow.new (b := b134) (e := 38) (k := 38) (n := 0) (cs := []) rfl) (by repeat (first | exact Pick.here | exact Pick.one | apply Pick.there | apply Pick.app)) (SlT.srcM encOpV_length (fun x hx => hones x (List.mem_of_mem_take hx)) (SlT.hi (Ow.slT (xs := wv') encOpV_length hOw rfl (by omega) (by intro x hx; simp [hx])) (h' := m) (by omega) (by omega) (fun ha => by rw [hAw] at ha; cases ha)) (by simp; omega)) (by omega) (by omega)) ?_; rintro v141 H' L' hle ⟨C1, hO1, _, rfl, rfl⟩; refine ⟨⟨(by first | exact Gh.le_refl _ | assumption | exact Gh.le_trans (by assumption) (by assumption)), (by repeat (first | exact List.Sublist.refl _ | exact List.nil_sublist _ | apply List.Sublist.cons_cons | apply List.Sublist.cons | apply List.Sublist.append (List.Sublist.refl _) | refine List.Sublist.trans ?_ (List.sublist_append_right _ _)))⟩, ?_⟩
                      refine gr_nx rfl rfl rfl (nx_append (m := wv'.length - (m + 1)) Tryd.app25_25 rfl rfl hO1 (by repeat (first | exact Pick.here | exact Pick.one | apply Pick.there | apply Pick.app)) (SlT.srcM encOpV_length (fun x hx => hones x (List.mem_of_mem_drop hx)) (SlT.lo (Ow.slT (xs := wv') encOpV_length hOw rfl (by omega) (by intro x hx; simp [hx])) (l := m + 1) (by omega)) (by simp)) (by omega) (by omega)) ?_; rintro v149 H' L' hle ⟨E1, hE1, _, rfl, rfl⟩; refine ⟨⟨(by first | exact Gh.le_refl _ | assumption | exact Gh.le_trans (by assumption) (by assumption)), (by repeat (first | exact List.Sublist.refl _ | exact List.nil_sublist _ | apply List.Sublist.cons_cons | apply List.Sublist.cons | apply List.Sublist.append (List.Sublist.refl _) | refine List.Sublist.trans ?_ (List.sublist_append_right _ _)))⟩, ?_⟩
                      refine gr_drop (L' := E1 ++ ((b11, .cells (encOpV wv'[m]).toArray 38 (0, 0)) :: (b12, .cells (encId nm).toArray 34 (0, 0)) :: (Co ++ ((b, .cells [w0, w1, w2, w3].toArray 48 (0, 0)) :: (D0 ++ (D2 ++ (D3 ++ L))))))) (by repeat (first | exact List.Sublist.refl _ | apply List.Sublist.cons_cons | apply List.Sublist.cons | apply List.Sublist.append (List.Sublist.refl _) | refine List.Sublist.trans ?_ (List.sublist_append_right _ _))) ?_
                      refine gr_rd rfl rfl rfl (rd_nilCheck rfl) ?_
                      refine gr_rd rfl rfl rfl (rd_fieldAddr Tryd.fa48_1 rfl) ?_
                      refine gr_fin0 rfl rfl (nx_store (vs := [_]) Tryd.sizeOf25 rfl rfl (cells1 (Ow.one hE1)) rfl (by repeat (first | exact Upd.here | exact Upd.appl (by assumption) | apply Upd.there | apply Upd.app)) (by simp) (oneCells_cons (Ow.one hE1) oneCells_nil)) ?_; rintro _ _ _ _ ⟨rfl, rfl, rfl⟩
                      refine gr_nil ?_
                      refine gk_then ?_
                      refine gc_seq ?_
                      refine gc_draw Tryd.mixed [(.mv, 0), (.mv, 2), (.mv, 3), (.mv, 4), (.mv, 5), (.mv, 6), (.mv, 7), (.mv, 9), (.mv, 10), (.mv, 11), (.mv, 12), (.mv, 13), (.mv, 14), (.mv, 15), (.nm, 1), (.nm, 8), (.nm, 16), (.mv, 17), (.mv, 18), (.fin, 19)] (by decide +kernel) [(b, .cells [w0, v149, w2, w3].toArray 48 (0, 0))] ((List.Sublist.trans (List.Sublist.cons _ (List.Sublist.cons _ ((List.Sublist.cons_cons _ (List.nil_sublist _)).trans (List.sublist_append_right _ _)))) (List.sublist_append_right _ _))) ?_
                      refine gr_rd rfl rfl rfl (rd_move rfl) ?_
                      refine gr_rd rfl rfl rfl (rd_move rfl) ?_
                      refine gr_rd rfl rfl rfl (rd_nilCheck rfl) ?_
                      refine gr_rd rfl rfl rfl (rd_fieldAddr Tryd.fa48_3 rfl) ?_
                      refine gr_rd rfl rfl rfl (rd_load1 Tryd.to29 rfl (Cells.own (l := [w0, v149, w2, w3]) (T := 48) (z := (0, 0)) (by simp [baseL])) (v := .slice An ns.length cn) (by rw [← hne]; rfl)) ?_
                      refine gr_rd rfl rfl rfl (rd_move rfl) ?_
                      refine gr_rd rfl rfl rfl (rd_sliceHiA Tryd.underlying29 Tryd.sizeOf34 rfl rfl (h := m) hbi (by omega)) ?_
                      refine gr_rd rfl rfl rfl (rd_move rfl) ?_
                      refine gr_rd rfl rfl rfl (rd_nilCheck rfl) ?_
                      refine gr_rd rfl rfl rfl (rd_fieldAddr Tryd.fa48_3 rfl) ?_
                      refine gr_rd rfl rfl rfl (rd_load1 Tryd.to29 rfl (Cells.own (l := [w0, v149, w2, w3]) (T := 48) (z := (0, 0)) (by simp [baseL])) (v := .slice An ns.length cn) (by rw [← hne]; rfl)) ?_
                      refine gr_rd rfl rfl rfl (rd_move rfl) ?_
                      (first | refine gr_rd rfl rfl rfl (rd_add rfl rfl (IntWalk.i64_in _ (by omega))) ?_ | refine gr_rd rfl rfl rfl (rd_add rfl rfl rfl) ?_)
                      refine gr_rd rfl rfl rfl (rd_sliceLoA Tryd.underlying29 Tryd.sizeOf34 rfl rfl (l := m + 1) (by omega) (by omega) (by omega)) ?_
                      refine gr_nx rfl rfl rfl (nx_buildSlice (vs := []) Tryd.underlying29 Tryd.sizeOf34 Tryd.zeroValue34 rfl rfl rfl rfl (fun v hv => by cases hv) rfl rfl rfl) ?_; rintro _ _ _ _ ⟨b153, rfl, rfl, rfl⟩; refine ⟨⟨(by first | exact Gh.le_refl _ | assumption | exact Gh.le_trans (by assumption) (by assumption)), (by repeat (first | exact List.Sublist.refl _ | exact List.nil_sublist _ | apply List.Sublist.cons_cons | apply List.Sublist.cons | apply List.Sublist.append (List.Sublist.refl _) | refine List.Sublist.trans ?_ (List.sublist_append_right _ _)))⟩, ?_⟩
                      refine gr_nx rfl rfl rfl (nx_append (m := m) Tryd.app29_29 rfl rfl (Ow.new (b := b153) (e := 34) (k := 32) (n := 0) (cs := []) rfl) (by repeat (first | exact Pick.here | exact Pick.one | apply Pick.there | apply Pick.app)) (SlT.srcN encId_length encId_ones (SlT.hi (Ow.slT (xs := ns) encId_length hOn rfl (by omega) (by intro x hx; simp [hx])) (h' := m) (by omega) (by omega) (fun ha => by rw [hAn] at ha; cases ha)) (by simp; omega)) (by omega) (by omega)) ?_; rintro v160 H' L' hle ⟨C3, hO3, _, rfl, rfl⟩; refine ⟨⟨(by first | exact Gh.le_refl _ | assumption | exact Gh.le_trans (by assumption) (by assumption)), (by repeat (first | exact List.Sublist.refl _ | exact List.nil_sublist _ | apply List.Sublist.cons_cons | apply List.Sublist.cons | apply List.Sublist.append (List.Sublist.refl _) | refine List.Sublist.trans ?_ (List.sublist_append_right _ _)))⟩, ?_⟩
                      refine gr_nx rfl rfl rfl (nx_append (m := ns.length - (m + 1)) Tryd.app29_29 rfl rfl hO3 (by repeat (first | exact Pick.here | exact Pick.one | apply Pick.there | apply Pick.app)) (SlT.srcN encId_length encId_ones (SlT.lo (Ow.slT (xs := ns) encId_length hOn rfl (by omega) (by intro x hx; simp [hx])) (l := m + 1) (by omega)) (by simp)) (by omega) (by omega)) ?_; rintro v168 H' L' hle ⟨E3, hE3, _, rfl, rfl⟩; refine ⟨⟨(by first | exact Gh.le_refl _ | assumption | exact Gh.le_trans (by assumption) (by assumption)), (by repeat (first | exact List.Sublist.refl _ | exact List.nil_sublist _ | apply List.Sublist.cons_cons | apply List.Sublist.cons | apply List.Sublist.append (List.Sublist.refl _) | refine List.Sublist.trans ?_ (List.sublist_append_right _ _)))⟩, ?_⟩
                      refine gr_drop (L' := E3 ++ (E1 ++ ((b11, .cells (encOpV wv'[m]).toArray 38 (0, 0)) :: (b12, .cells (encId nm).toArray 34 (0, 0)) :: (Co ++ ((b, .cells [w0, v149, w2, w3].toArray 48 (0, 0)) :: (D0 ++ (D2 ++ L))))))) (by repeat (first | exact List.Sublist.refl _ | apply List.Sublist.cons_cons | apply List.Sublist.cons | apply List.Sublist.append (List.Sublist.refl _) | refine List.Sublist.trans ?_ (List.sublist_append_right _ _))) ?_
                      refine gr_rd rfl rfl rfl (rd_nilCheck rfl) ?_
                      refine gr_rd rfl rfl rfl (rd_fieldAddr Tryd.fa48_3 rfl) ?_
                      refine gr_fin0 rfl rfl (nx_store (vs := [_]) Tryd.sizeOf29 rfl rfl (cells1 (Ow.one hE3)) rfl (by repeat (first | exact Upd.here | exact Upd.appl (by assumption) | apply Upd.there | apply Upd.app)) (by simp) (oneCells_cons (Ow.one hE3) oneCells_nil)) ?_; rintro _ _ _ _ ⟨rfl, rfl, rfl⟩
                      refine gr_nil ?_
                      refine gk_then ?_
                      refine gc_seq ?_
                      refine gc_draw Tryd.mixed [(.mv, 0), (.mv, 1), (.mv, 2), (.mv, 3), (.nm, 4), (.mv, 5)] (by decide +kernel) _ (List.Sublist.refl _) ?_
                      obtain ⟨s2, hs2⟩ : ∃ s2 : DSet, (⟨s'.ops, s'.wait.eraseIdx m⟩ : DSet) = s2 := ⟨_, rfl⟩
                      have h2o : s2.ops = s'.ops := by rw [← hs2]
                      have h2w : s2.wait = s'.wait.eraseIdx m := by rw [← hs2]
                      have h2ol : s2.ops.length = s'.ops.length := by rw [h2o]
                      have hmw : m < s'.wait.length := by omega
                      have h2l : s2.wait.length + 1 = s'.wait.length := by rw [h2w, List.length_eraseIdx_of_lt hmw]; omega
                      obtain ⟨k', rfl⟩ : ∃ k', k = k' + 1 := ⟨k - 1, by omega⟩
                      have hstep2 := settle_step (k := k') (out := out) hbo2.symm hwo
                      rw [hs2, ← h2w, ← h2o, ← how] at hstep2
                      have hS2 : RSet H s2 w0 v149 w2 v168 ov' (wv'.eraseIdx m) D0 E1 D2 E3 := by
                        rw [← hs2]
                        refine ⟨hS'.ops, hS'.opsE, ?_, ?_, hS'.names, ?_, hS'.preds, fun p hp => hS'.predsW p (List.mem_of_mem_eraseIdx hp)⟩
                        · rw [List.length_eraseIdx_of_lt hm1, ← eraseIdx_cut, List.flatMap_append]
                          have e1 : 0 + m + (wv'.length - (m + 1)) = wv'.length - 1 := by omega
                          rw [e1] at hE1
                          simpa using hE1
                        · simp only [← eraseIdx_cut, List.map_append, List.map_take, List.map_drop, hS'.waitE]
                        · have e0 : (⟨s'.ops, s'.wait.eraseIdx m⟩ : DSet).wait.length = s'.wait.length - 1 := List.length_eraseIdx_of_lt hmw
                          rw [e0]
                          simp only [← eraseIdx_cut, List.map_append, List.map_take, List.map_drop, hns, List.flatMap_append]
                          have e1 : 0 + m + (ns.length - (m + 1)) = s'.wait.length - 1 := by omega
                          rw [e1] at hE3
                          simpa using hE3
                      have hall3 : ∀ n ∈ (wv'[m]).1.preds, has s2.ops n = true := by rw [h2o]; exact hall2
                      refine gr_drop (L' := E3 ++ (E1 ++ ((b11, .cells (encOpV wv'[m]).toArray 38 (0, 0)) :: (b12, .cells (encId nm).toArray 34 (0, 0)) :: (Co ++ ((b, .cells [w0, v149, w2, v168].toArray 48 (0, 0)) :: (D0 ++ (D2 ++ L))))))) (List.Sublist.refl _) ?_
                      refine gr_rd rfl rfl rfl (rd_fieldAddr Tryd.fa38_2 rfl) ?_
                      refine gr_rd rfl rfl rfl (rd_load1 Tryd.to3 rfl (Cells.own (l := encOpV wv'[m]) (T := 38) (z := (0, 0)) (by simp [baseL])) (v := i64 (wv'[m]).1.depth) (encOp_36 _ _)) ?_
                      refine gr_rd rfl rfl rfl (rd_move rfl) ?_
                      refine gr_rd rfl rfl rfl (rd_loadA Tryd.ta38 rfl (Cells.own (l := encOpV wv'[m]) (T := 38) (z := (0, 0)) (by simp [baseL])) (Seg.all _) (encOpV_length _)) ?_
                      refine gr_nx rfl rfl rfl (nx_call Tryd.en56 rfl (rdepth_cc _ _ (hS2.view (L := _) (T := 48) (z := (0, 0)) (by omega) (by simp [baseL]) (by intro x hx; simp [baseL, hx]) (by intro x hx; simp [baseL, hx]) (by intro x hx; simp [baseL, hx]) (by intro x hx; simp [baseL, hx])) (wv'[m]).1 (wv'[m]).2 hdp.any hall3)) ?_; rintro v175 H' L' hle ⟨rfl, rfl, rfl⟩; refine ⟨⟨(by first | exact Gh.le_refl _ | assumption | exact Gh.le_trans (by assumption) (by assumption)), (by repeat (first | exact List.Sublist.refl _ | exact List.nil_sublist _ | apply List.Sublist.cons_cons | apply List.Sublist.cons | apply List.Sublist.append (List.Sublist.refl _) | refine List.Sublist.trans ?_ (List.sublist_append_right _ _)))⟩, ?_⟩
                      refine gr_rd rfl rfl rfl (rd_eql rfl rfl) ?_
                      refine gr_nil ?_
                      refine gk_then ?_
                      refine gc_cond rfl (fun hc7 => ?_) (fun hc7 => ?_)
                      · have hd7 : (wv'[m]).1.depth = depthOf s2 (wv'[m]).1.preds := by simpa using hc7
                        refine gc_seq ?_
                        refine gc_draw Tryd.mixed [(.mv, 0), (.mv, 1), (.mv, 2), (.mv, 3), (.mv, 4), (.mv, 5), (.nm, 6), (.nm, 7), (.mv, 8), (.mv, 9), (.fin, 10)] (by decide +kernel) [(b11, .cells (encOpV wv'[m]).toArray 38 (0, 0)), (b, .cells [w0, v149, w2, v168].toArray 48 (0, 0))] ((by repeat (first | exact List.Sublist.refl _ | exact List.nil_sublist _ | apply List.Sublist.cons_cons | apply List.Sublist.cons | refine List.Sublist.trans ?_ (List.sublist_append_right _ _)))) ?_
                        refine gr_rd rfl rfl rfl (rd_move rfl) ?_
                        refine gr_rd rfl rfl rfl (rd_move rfl) ?_
                        refine gr_rd rfl rfl rfl (rd_nilCheck rfl) ?_
                        refine gr_rd rfl rfl rfl (rd_fieldAddr Tryd.fa48_0 rfl) ?_
                        refine gr_rd rfl rfl rfl (rd_load1 Tryd.to25 rfl (Cells.own (l := [w0, v149, w2, v168]) (T := 48) (z := (0, 0)) (by simp [baseL])) rfl) ?_
                        refine gr_rd rfl rfl rfl (rd_loadA Tryd.ta38 rfl (Cells.own (l := encOpV wv'[m]) (T := 38) (z := (0, 0)) (by simp [baseL])) (Seg.all _) (encOpV_length _)) ?_
                        refine gr_nx rfl rfl rfl (nx_sliceA1 Tryd.underlying25 Tryd.sizeOf38 Tryd.zeroValue38 rfl rfl rfl (by first | exact encId_length _ | exact encOp_length _ _ | exact encDraft_length _ | rfl | simp) rfl) ?_; rintro _ _ _ _ ⟨b183, rfl, rfl, rfl⟩; refine ⟨⟨(by first | exact Gh.le_refl _ | assumption | exact Gh.le_trans (by assumption) (by assumption)), (by repeat (first | exact List.Sublist.refl _ | exact List.nil_sublist _ | apply List.Sublist.cons_cons | apply List.Sublist.cons | apply List.Sublist.append (List.Sublist.refl _) | refine List.Sublist.trans ?_ (List.sublist_append_right _ _)))⟩, ?_⟩
                        refine gr_nx rfl rfl rfl (nx_append (m := 1) Tryd.app25_25 rfl rfl hS2.ops (by repeat (first | exact Pick.here | exact Pick.one | apply Pick.there | apply Pick.app)) (src_slice (b := b183) (o := 0) (l := encOpV wv'[m]) (m := 1) (by simp) (hones _ (List.getElem_mem hm1)) (fun h => by cases h) (fun _ _ => ⟨rfl, Cells.own List.mem_cons_self, Seg.all _⟩)) (by omega) (by omega)) ?_; rintro v184 H' L' hle ⟨F0, hF0, _, rfl, rfl⟩; refine ⟨⟨(by first | exact Gh.le_refl _ | assumption | exact Gh.le_trans (by assumption) (by assumption)), (by repeat (first | exact List.Sublist.refl _ | exact List.nil_sublist _ | apply List.Sublist.cons_cons | apply List.Sublist.cons | apply List.Sublist.append (List.Sublist.refl _) | refine List.Sublist.trans ?_ (List.sublist_append_right _ _)))⟩, ?_⟩
                        refine gr_drop (L' := F0 ++ (E3 ++ (E1 ++ ((b11, .cells (encOpV wv'[m]).toArray 38 (0, 0)) :: (b12, .cells (encId nm).toArray 34 (0, 0)) :: (Co ++ ((b, .cells [w0, v149, w2, v168].toArray 48 (0, 0)) :: (D2 ++ L))))))) (by repeat (first | exact List.Sublist.refl _ | apply List.Sublist.cons_cons | apply List.Sublist.cons | apply List.Sublist.append (List.Sublist.refl _) | refine List.Sublist.trans ?_ (List.sublist_append_right _ _))) ?_
                        refine gr_rd rfl rfl rfl (rd_nilCheck rfl) ?_
                        refine gr_rd rfl rfl rfl (rd_fieldAddr Tryd.fa48_0 rfl) ?_
                        refine gr_fin0 rfl rfl (nx_store (vs := [_]) Tryd.sizeOf25 rfl rfl (cells1 (Ow.one hF0)) rfl (by repeat (first | exact Upd.here | exact Upd.appl (by assumption) | apply Upd.there | apply Upd.app)) (by simp) (oneCells_cons (Ow.one hF0) oneCells_nil)) ?_; rintro _ _ _ _ ⟨rfl, rfl, rfl⟩
                        refine gr_nil ?_
                        refine gk_then ?_
                        refine gc_seq ?_
                        refine gc_draw Tryd.mixed [(.mv, 0), (.mv, 1), (.mv, 2), (.mv, 3), (.mv, 4), (.mv, 5), (.nm, 6), (.nm, 7), (.mv, 8), (.mv, 9), (.fin, 10)] (by decide +kernel) [(b12, .cells (encId nm).toArray 34 (0, 0)), (b, .cells [v184, v149, w2, v168].toArray 48 (0, 0))] ((by repeat (first | exact List.Sublist.refl _ | exact List.nil_sublist _ | apply List.Sublist.cons_cons | apply List.Sublist.cons | refine List.Sublist.trans ?_ (List.sublist_append_right _ _)))) ?_
                        refine gr_rd rfl rfl rfl (rd_move rfl) ?_
                        refine gr_rd rfl rfl rfl (rd_move rfl) ?_
                        refine gr_rd rfl rfl rfl (rd_nilCheck rfl) ?_
                        refine gr_rd rfl rfl rfl (rd_fieldAddr Tryd.fa48_2 rfl) ?_
                        refine gr_rd rfl rfl rfl (rd_load1 Tryd.to29 rfl (Cells.own (l := [v184, v149, w2, v168]) (T := 48) (z := (0, 0)) (by simp [baseL])) rfl) ?_
                        refine gr_rd rfl rfl rfl (rd_loadA Tryd.ta34 rfl (Cells.own (l := encId nm) (T := 34) (z := (0, 0)) (by simp [baseL])) (Seg.all _) (encId_length _)) ?_
                        refine gr_nx rfl rfl rfl (nx_sliceA1 Tryd.underlying29 Tryd.sizeOf34 Tryd.zeroValue34 rfl rfl rfl (by first | exact encId_length _ | exact encOp_length _ _ | exact encDraft_length _ | rfl | simp) rfl) ?_; rintro _ _ _ _ ⟨b193, rfl, rfl, rfl⟩; refine ⟨⟨(by first | exact Gh.le_refl _ | assumption | exact Gh.le_trans (by assumption) (by assumption)), (by repeat (first | exact List.Sublist.refl _ | exact List.nil_sublist _ | apply List.Sublist.cons_cons | apply List.Sublist.cons | apply List.Sublist.append (List.Sublist.refl _) | refine List.Sublist.trans ?_ (List.sublist_append_right _ _)))⟩, ?_⟩
                        refine gr_nx rfl rfl rfl (nx_append (m := 1) Tryd.app29_29 rfl rfl hS2.names (by repeat (first | exact Pick.here | exact Pick.one | apply Pick.there | apply Pick.app)) (src_slice (b := b193) (o := 0) (l := encId nm) (m := 1) (by simp) (encId_ones _) (fun h => by cases h) (fun _ _ => ⟨rfl, Cells.own List.mem_cons_self, Seg.all _⟩)) (by omega) (by omega)) ?_; rintro v194 H' L' hle ⟨F2, hF2, _, rfl, rfl⟩; refine ⟨⟨(by first | exact Gh.le_refl _ | assumption | exact Gh.le_trans (by assumption) (by assumption)), (by repeat (first | exact List.Sublist.refl _ | exact List.nil_sublist _ | apply List.Sublist.cons_cons | apply List.Sublist.cons | apply List.Sublist.append (List.Sublist.refl _) | refine List.Sublist.trans ?_ (List.sublist_append_right _ _)))⟩, ?_⟩
                        refine gr_drop (L' := F2 ++ (F0 ++ (E3 ++ (E1 ++ ((b11, .cells (encOpV wv'[m]).toArray 38 (0, 0)) :: (b12, .cells (encId nm).toArray 34 (0, 0)) :: (Co ++ ((b, .cells [v184, v149, w2, v168].toArray 48 (0, 0)) :: L))))))) (by repeat (first | exact List.Sublist.refl _ | apply List.Sublist.cons_cons | apply List.Sublist.cons | apply List.Sublist.append (List.Sublist.refl _) | refine List.Sublist.trans ?_ (List.sublist_append_right _ _))) ?_
                        refine gr_rd rfl rfl rfl (rd_nilCheck rfl) ?_
                        refine gr_rd rfl rfl rfl (rd_fieldAddr Tryd.fa48_2 rfl) ?_
                        refine gr_fin0 rfl rfl (nx_store (vs := [_]) Tryd.sizeOf29 rfl rfl (cells1 (Ow.one hF2)) rfl (by repeat (first | exact Upd.here | exact Upd.appl (by assumption) | apply Upd.there | apply Upd.app)) (by simp) (oneCells_cons (Ow.one hF2) oneCells_nil)) ?_; rintro _ _ _ _ ⟨rfl, rfl, rfl⟩
                        refine gr_nil ?_
                        refine gk_then ?_
                        refine gc_seqr [(.mv, 0), (.mv, 1), (.nm, 2), (.nm, 3), (.mv, 4)] rfl ?_
                        refine gr_rd rfl rfl rfl (rd_move rfl) ?_
                        refine gr_rd rfl rfl rfl (rd_loadA Tryd.ta34 rfl (Cells.own (l := encId nm) (T := 34) (z := (0, 0)) (by simp [baseL])) (Seg.all _) (encId_length _)) ?_
                        refine gr_nx rfl rfl rfl (nx_sliceA1 Tryd.underlying29 Tryd.sizeOf34 Tryd.zeroValue34 rfl rfl rfl (by first | exact encId_length _ | exact encOp_length _ _ | exact encDraft_length _ | rfl | simp) rfl) ?_; rintro _ _ _ _ ⟨b199, rfl, rfl, rfl⟩; refine ⟨trivial, ?_⟩
                        refine gr_nx rfl rfl rfl (nx_append (m := 1) Tryd.app29_29 rfl rfl hO (by repeat (first | exact Pick.here | exact Pick.one | apply Pick.there | apply Pick.app)) (src_slice (b := b199) (o := 0) (l := encId nm) (m := 1) (by simp) (encId_ones _) (fun h => by cases h) (fun _ _ => ⟨rfl, Cells.own List.mem_cons_self, Seg.all _⟩)) (by omega) (by omega)) ?_; rintro v200 H' L' hle ⟨Co2, hO2, _, rfl, rfl⟩; refine ⟨trivial, ?_⟩
                        refine gr_rd rfl rfl rfl (rd_assign rfl) ?_
                        refine gr_nil ?_
                        refine gk_inBlock ?_
                        refine gk_perm (L' := ([(b199, .cells (encId nm).toArray 34 (0, 0)), (b11, .cells (encOpV wv'[m]).toArray 38 (0, 0)), (b12, .cells (encId nm).toArray 34 (0, 0))]) ++ (Co2 ++ ((b, .cells [v184, v149, v194, v168].toArray 48 (0, 0)) :: (F0 ++ (E1 ++ (F2 ++ (E3 ++ L))))))) (by haveI : DecidableEq (Nat × Obj) := fun _ _ => Classical.propDecidable _; rw [List.perm_iff_count]; intro a; simp only [List.count_append, List.count_cons, List.count_nil]; ac_rfl) ?_
                        refine gk_drop (L' := Co2 ++ ((b, .cells [v184, v149, v194, v168].toArray 48 (0, 0)) :: (F0 ++ (E1 ++ (F2 ++ (E3 ++ L)))))) (List.sublist_append_right _ _) ?_
                        refine gk_round ⟨k', ⟨s2.ops ++ [(nm, (wv'[m]).1)], s2.wait⟩, out ++ [nm], v184, v149, v194, v168, ov' ++ [wv'[m]], wv'.eraseIdx m, F0, E1, F2, E3, Co2, v200⟩ ?_ ?_ (by repeat (first | exact Subs.nil | refine Subs.cons rfl ?_))
                        · show s2.wait.length < s'.wait.length
                          omega
                        · refine ⟨rfl, rfl, ?_, by simpa using hO2, ?_, ?_, ?_, ?_⟩
                          · exact ⟨by simpa using hF0, by simp [hS2.opsE], hS2.wait, hS2.waitE, by simpa using hF2, hS2.waits, fun p hp' => (List.mem_append.1 hp').elim (hS2.preds p) (fun h => by rw [List.mem_singleton.1 h]; exact hdp), hS2.predsW⟩
                          · show (s2.ops ++ [_]).length + s2.wait.length ≤ _
                            rw [List.length_append, h2o]; simp only [List.length_cons, List.length_nil]; omega
                          · show (out ++ [nm]).length + s2.wait.length ≤ _
                            rw [List.length_append]; simp only [List.length_cons, List.length_nil]; omega
                          · show s2.wait.length < k'
                            omega
                          · rw [← hset, hstep2, if_pos hd7]
                      · have hd7 : ¬ (wv'[m]).1.depth = depthOf s2 (wv'[m]).1.preds := by simpa using hc7
                        refine gc_skip ?_
                        refine gk_inBlock ?_
                        refine gk_perm (L' := ([(b11, .cells (encOpV wv'[m]).toArray 38 (0, 0)), (b12, .cells (encId nm).toArray 34 (0, 0))]) ++ (Co ++ ((b, .cells [w0, v149, w2, v168].toArray 48 (0, 0)) :: (D0 ++ (E1 ++ (D2 ++ (E3 ++ L))))))) (by haveI : DecidableEq (Nat × Obj) := fun _ _ => Classical.propDecidable _; rw [List.perm_iff_count]; intro a; simp only [List.count_append, List.count_cons, List.count_nil]; ac_rfl) ?_
                        refine gk_drop (L' := Co ++ ((b, .cells [w0, v149, w2, v168].toArray 48 (0, 0)) :: (D0 ++ (E1 ++ (D2 ++ (E3 ++ L)))))) (List.sublist_append_right _ _) ?_
                        refine gk_round ⟨k', s2, out, w0, v149, w2, v168, ov', wv'.eraseIdx m, D0, E1, D2, E3, Co, vo⟩ ?_ ?_ (by repeat (first | exact Subs.nil | refine Subs.cons rfl ?_))
                        · show s2.wait.length < s'.wait.length
                          omega
                        · refine ⟨rfl, rfl, hS2, hO, ?_, ?_, ?_, ?_⟩
                          · show s2.ops.length + s2.wait.length ≤ _
                            rw [h2o]; omega
                          · show out.length + s2.wait.length ≤ _
                            omega
                          · show s2.wait.length < k'
                            omega
                          · rw [← hset, hstep2, if_neg hd7]
end Go.Proofs.YtfhldfjknagidaaDoor
