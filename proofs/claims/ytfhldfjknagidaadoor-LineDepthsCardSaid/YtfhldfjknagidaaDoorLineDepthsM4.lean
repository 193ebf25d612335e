/-
  Walks: the reference's set takes an operation.
-/
import Derived.Shelf.SlIter.Collect
import Derived.Shelf.SlIter.Sorted
import Derived.Test.YtfhldfjknagidaaDoorLineDepthsM1
import Derived.Test.YtfhldfjknagidaaDoorLineDepthsM3
set_option linter.unusedSimpArgs false
set_option linter.unusedVariables false
set_option linter.unnecessarySimpa false
set_option linter.all false
namespace Go.Proofs.YtfhldfjknagidaaDoor
open Go.VK Go.Tr
set_option maxRecDepth 20000
attribute [local irreducible] Go.Tr.sha
/-- A set that is owned: four slices. -/
structure RSet (H : Gh) (s : DSet) (v0 v1 v2 v3 : Value) (ov wv : List (POp × Value)) (C0 C1 C2 C3 : Chunks) : Prop where
  ops : Ow 38 38 C0 v0 ov.length (ov.flatMap encOpV)
  opsE : ov.map (·.1) = s.ops.map (·.2)
  wait : Ow 38 38 C1 v1 wv.length (wv.flatMap encOpV)
  waitE : wv.map (·.1) = s.wait.map (·.2)
  names : Ow 34 32 C2 v2 s.ops.length ((s.ops.map (·.1)).flatMap encId)
  waits : Ow 34 32 C3 v3 s.wait.length ((s.wait.map (·.1)).flatMap encId)
  preds : ∀ p ∈ ov, Ids H [] p.2 p.1.preds
  predsW : ∀ p ∈ wv, Ids H [] p.2 p.1.preds
theorem RSet.lens {H : Gh} {s : DSet} {v0 v1 v2 v3 : Value} {ov wv : List (POp × Value)} {C0 C1 C2 C3 : Chunks} (h : RSet H s v0 v1 v2 v3 ov wv C0 C1 C2 C3) : ov.length = s.ops.length ∧ wv.length = s.wait.length :=
  ⟨by simpa using congrArg List.length h.opsE, by simpa using congrArg List.length h.waitE⟩
theorem RSet.view {H : Gh} {s : DSet} {v0 v1 v2 v3 : Value} {ov wv : List (POp × Value)} {C0 C1 C2 C3 : Chunks} {L : Chunks} {b : Nat} {T : TypeId} {z : Nat × Nat} (h : RSet H s v0 v1 v2 v3 ov wv C0 C1 C2 C3)
    (hz : s.ops.length + s.wait.length < 16777216) (hb : (b, Obj.cells [v0, v1, v2, v3].toArray T z) ∈ L) (h0 : ∀ x ∈ C0, x ∈ L) (h1 : ∀ x ∈ C1, x ∈ L) (h2 : ∀ x ∈ C2, x ∈ L) (h3 : ∀ x ∈ C3, x ∈ L) : RView H L b s v0 v1 v2 v3 ov wv := by
  obtain ⟨e0, e1⟩ := h.lens
  exact ⟨Cells.own hb, ⟨Ow.slT encOpV_length h.ops rfl (by omega) h0, h.preds⟩, h.opsE, ⟨Ow.slT encOpV_length h.wait rfl (by omega) h1, h.predsW⟩, h.waitE, Ow.slT encId_length h.names (by simp) (by omega) h2, Ow.slT encId_length h.waits (by simp) (by omega) h3⟩
/-- What stands at the start of each round of Take's last loop. -/
structure LS where
  k : Nat
  s : DSet
  out : List Nm
  w0 : Value
  w1 : Value
  w2 : Value
  w3 : Value
  ov : List (POp × Value)
  wv : List (POp × Value)
  D0 : Chunks
  D1 : Chunks
  D2 : Chunks
  D3 : Chunks
  Co : Chunks
  vo : Value
def bestI : Option (Nat × Nm) → Int
  | none => -1
  | some (i, _) => i
theorem bestOf_step {s : DSet} {l : List (Nm × POp)} {i : Nat} {n : Nm} {o : POp} {b : Option (Nat × Nm)} (h : l[i]? = some (n, o)) :
    bestOf s (l.drop i) i b = bestOf s (l.drop (i + 1)) (i + 1) (if whole s o && (match b with | none => true | some (_, m) => cmp n m < 0) then some (i, n) else b) := by
  obtain ⟨h1, h2⟩ := List.getElem?_eq_some_iff.1 h
  rw [List.drop_eq_getElem_cons h1, h2]; rfl
theorem best_at {s : DSet} {m : Nat} {n : Nm} (h : bestOf s s.wait 0 none = some (m, n)) : ∃ o, s.wait[m]? = some (n, o) ∧ whole s o = true := by
  rcases bestOf_spec s s.wait 0 none with ⟨h1, _⟩ | ⟨k, n', o, h1, h2, h3, _, _⟩
  · rw [h1] at h; cases h
  · rw [h3] at h
    simp only [Nat.zero_add, Option.some.injEq, Prod.mk.injEq] at h
    obtain ⟨rfl, rfl⟩ := h
    exact ⟨o, h1, h2⟩
theorem settle_step {s : DSet} {m k : Nat} {n : Nm} {o : POp} {out : List Nm} (h : bestOf s s.wait 0 none = some (m, n)) (ho : s.wait[m]? = some (n, o)) :
    Tr.settle (k + 1) s out = if o.depth = depthOf ⟨s.ops, s.wait.eraseIdx m⟩ o.preds then Tr.settle k ⟨s.ops ++ [(n, o)], s.wait.eraseIdx m⟩ (out ++ [n]) else Tr.settle k ⟨s.ops, s.wait.eraseIdx m⟩ out := by
  rw [Tr.settle]
  simp only [h, ho]
theorem flat_onesM {α : Type} {enc : α → List Value} {xs : List α} (h1 : ∀ x ∈ xs, oneCells (enc x)) : oneCells (xs.flatMap enc) := fun u hu => by
  obtain ⟨x, hx', hx⟩ := List.mem_flatMap.1 hu
  exact h1 x hx' u hx
theorem SlT.srcM {α : Type} {enc : α → List Value} {k : Nat} {P : Program} {H : Gh} {L : Chunks} {v : Value} {xs : List α} {n : Nat} (hk : ∀ x, (enc x).length = k) (h1 : ∀ x ∈ xs, oneCells (enc x)) (h : SlT enc k H L v xs) (hn : xs.length = n) : Src P H L k v n (xs.flatMap enc) := by
  subst hn
  obtain ⟨a, b, o, c, l, rfl, hc, hn, h0, h3, h2⟩ := h
  refine src_slice (b := b) (o := o) (l := l) (flat_len hk xs) (flat_onesM h1) (fun ha => by simp [(h0 ha).1]) (fun _ hne => ?_)
  have hne' : xs ≠ [] := fun e => hne (by simp [e])
  refine ⟨(h3 hne').1, (h3 hne').2, fun j u hu => ?_⟩
  have hj := (List.getElem?_eq_some_iff.1 hu).1
  rw [flat_len hk] at hj
  have hk0 : 0 < k := by
    rcases Nat.eq_zero_or_pos k with h | h
    · subst h; simp at hj
    · exact h
  have hq : j / k < xs.length := (Nat.div_lt_iff_lt_mul hk0).2 hj
  have hx : xs[j / k]? = some xs[j / k] := List.getElem?_eq_getElem hq
  have hdm : j / k * k + j % k = j := by rw [Nat.mul_comm]; exact Nat.div_add_mod j k
  have hr : j % k < (enc xs[j / k]).length := by rw [hk]; exact Nat.mod_lt _ hk0
  have e1 := flat_seg hk xs (j / k) _ hx (j % k) _ (List.getElem?_eq_getElem hr)
  rw [hdm, hu] at e1
  have e2 := h2 (j / k) _ hx (j % k) _ (List.getElem?_eq_getElem hr)
  rw [Nat.add_assoc, hdm] at e2
  rw [e2, ← e1]
theorem eraseIdx_cut {α : Type} (l : List α) (m : Nat) : l.take m ++ l.drop (m + 1) = l.eraseIdx m := (List.eraseIdx_eq_take_drop_succ l m).symm
theorem has_pos {l : List (Nm × POp)} {n : Nm} : (decide (0 ≤ posOf (l.map (·.1)) n)) = has l n := by
  have h := posOf_has (l := l) (n := n)
  cases hh : has l n with
  | true => rw [hh] at h; have := of_decide_eq_false (h.trans rfl); exact decide_eq_true (by omega)
  | false => rw [hh] at h; have := of_decide_eq_true (h.trans rfl); exact decide_eq_false (by omega)

set_option maxHeartbeats 4000000 in
theorem rtake_cc (H : Gh) (L : Chunks) {b : Nat} {s : DSet} {v0 v1 v2 v3 : Value} {ov wv : List (POp × Value)} {C0 C1 C2 C3 : Chunks} (hS : RSet H s v0 v1 v2 v3 ov wv C0 C1 C2 C3) (hz : s.ops.length + s.wait.length < 16777215)
    (o : POp) (pv : Value) (hp : Ids H [] pv o.preds) (ho : SmallO o) :
    CC Tryd.prog 19 #[pt b 0, ag (encOp o pv)] H ((b, .cells [v0, v1, v2, v3].toArray 48 (0, 0)) :: (C0 ++ (C1 ++ (C2 ++ (C3 ++ L))))) (fun v H' L' => ∃ w0 w1 w2 w3 ov' wv' D0 D1 D2 D3 Co vo, RSet H (take s o).1 w0 w1 w2 w3 ov' wv' D0 D1 D2 D3 ∧
      Ow 34 32 Co vo (take s o).2.1.length ((take s o).2.1.flatMap encId) ∧ v = .tuple #[vo, i64 (take s o).2.2] ∧ H = H' ∧ Co ++ ((b, .cells [w0, w1, w2, w3].toArray 48 (0, 0)) :: (D0 ++ (D1 ++ (D2 ++ (D3 ++ L))))) = L') := by
 obtain ⟨hlo, hlw⟩ := hS.lens
 refine cc_of Tryd.func19 rfl (Nat.le_of_ble_eq_true rfl) ?_
 simp only [Tryd.ntmps19]
 refine gc_seq (gc_seqr [(.nm, 0), (.mv, 1), (.mv, 2)] rfl ?_)
 refine gr_nx rfl rfl rfl (nx_box rfl rfl) ?_; rintro _ _ _ _ ⟨b3, rfl, rfl, rfl⟩; refine ⟨trivial, ?_⟩
 refine ga rfl rfl rfl rfl ?_
 refine ga rfl rfl rfl rfl ?_
 refine gr_nil (gk_then ?_)
 refine gc_seq ?_
 refine gc_seq (gc_seqr [(.mv, 0), (.nm, 1), (.mv, 2)] rfl ?_)
 refine gr_rd rfl rfl rfl (rd_loadA Tryd.ta38 rfl (Cells.own (l := encOp o pv) (T := 38) (z := (0, 0)) (by simp [baseL])) (Seg.all _) (encOp_length _ _)) ?_
 refine gr_nx rfl rfl rfl (nx_call Tryd.en53 rfl (rgood_cc _ _ o pv hp.any)) ?_; rintro v14 H' L' hle ⟨rfl, rfl, rfl⟩; refine ⟨trivial, ?_⟩
 refine gr_rd rfl rfl rfl (rd_not rfl) ?_
 refine gr_nil (gk_then ?_)
 refine gc_cond rfl (fun hc0 => ?_) (fun hc0 => ?_)
 ·have ht : take s o = (s, [], 1) := by rw [take, if_pos (by simpa using hc0)]
  refine gc_seq (gc_seqr [(.mv, 0), (.mv, 1)] rfl ?_)
  refine ga rfl rfl rfl rfl ?_
  refine ga rfl rfl rfl rfl ?_
  refine gr_nil (gk_then ?_)
  refine gc_ret ?_
  refine gk_ret_then ?_
  refine gk_perm (L' := [(b3, .cells (encOp o pv).toArray 38 (0, 0))] ++ ([] ++ ((b, .cells [v0, v1, v2, v3].toArray 48 (0, 0)) :: (C0 ++ (C1 ++ (C2 ++ (C3 ++ L))))))) (by haveI : DecidableEq (Nat × Obj) := fun _ _ => Classical.propDecidable _; rw [List.perm_iff_count]; intro a; simp only [List.count_append, List.count_cons, List.count_nil]; ac_rfl) ?_
  refine gk_result (L' := [] ++ ((b, .cells [v0, v1, v2, v3].toArray 48 (0, 0)) :: (C0 ++ (C1 ++ (C2 ++ (C3 ++ L)))))) (.inl rfl) _ (res2 rfl rfl rfl) (List.sublist_append_right _ _) (Gh.le_refl _) ?_
  exact ⟨v0, v1, v2, v3, ov, wv, C0, C1, C2, C3, [], _, by rw [ht]; exact hS, by rw [ht]; exact Ow.nil, by rw [ht], rfl, rfl⟩
 ·skip
  refine gc_skip ?_
  refine gk_then ?_
  refine gc_seq (gc_seqr [(.mv, 0), (.nm, 1), (.nm, 2), (.nm, 3)] rfl ?_)
  refine gr_rd rfl rfl rfl (rd_loadA Tryd.ta38 rfl (Cells.own (l := encOp o pv) (T := 38) (z := (0, 0)) (by simp [baseL])) (Seg.all _) (encOp_length _ _)) ?_
  refine gr_nx rfl rfl rfl (nx_call Tryd.en16 rfl (rname_cc _ _ o pv hp.any ho)) ?_; rintro v17 H' L' hle ⟨rfl, rfl, rfl⟩; refine ⟨trivial, ?_⟩
  refine gr_nx rfl rfl rfl (nx_alloc Tryd.zeroValue34 rfl) ?_; rintro _ _ _ _ ⟨b6, rfl, rfl, rfl⟩; refine ⟨trivial, ?_⟩
  refine gr_nx0 rfl rfl (nx_store (vs := encId (nameOf o)) Tryd.sizeOf34 rfl rfl rfl (encId_length _) Upd.here (by simp) (encId_ones _)) ?_; rintro _ _ _ _ ⟨rfl, rfl, rfl⟩; refine ⟨trivial, ?_⟩
  rw [wr_all (by rw [encId_length]; exact Nat.le_refl _)]
  refine gr_nil (gk_then ?_)
  refine gc_seq ?_
  refine gc_seq (gc_seqr [(.mv, 0), (.mv, 1), (.nm, 2), (.mv, 3), (.mv, 4), (.mv, 5), (.mv, 6), (.nm, 7), (.mv, 8)] rfl ?_)
  refine gm rfl rfl rfl rfl ?_
  refine gr_rd rfl rfl rfl (rd_loadA Tryd.ta34 rfl (Cells.own (l := encId (nameOf o)) (T := 34) (z := (0, 0)) (by simp [baseL])) (Seg.all _) (encId_length _)) ?_
  refine gr_nx rfl rfl rfl (nx_call Tryd.en23 rfl (rat_cc _ _ (hS.view (L := _) (T := 48) (z := (0, 0)) (by omega) (by simp [baseL]) (by intro x hx; simp [baseL, hx]) (by intro x hx; simp [baseL, hx]) (by intro x hx; simp [baseL, hx]) (by intro x hx; simp [baseL, hx])) (nameOf o))) ?_; rintro v20 H' L' hle ⟨rfl, rfl, rfl⟩; refine ⟨trivial, ?_⟩
  refine gr_rd rfl rfl rfl (rd_geq rfl rfl) ?_
  refine gm rfl rfl rfl rfl ?_
  refine gr_split rfl (fun hg4 => ?_) (fun hg4 => ?_)
  ·skip
   refine gr_no rfl rfl rfl ?_
   refine gr_no rfl rfl rfl ?_
   refine gr_no rfl rfl rfl ?_
   (first | refine gpt rfl rfl rfl rfl rfl ?_ | refine gpf rfl rfl rfl rfl rfl ?_)
   refine gr_nil (gk_then ?_)
   refine gc_yes rfl ?_
   have ht : take s o = (s, [], 9) := by rw [take, if_neg (by simpa using hc0), if_pos (by rw [← has_pos]; simp_all)]
   refine gc_seq (gc_seqr [(.mv, 0), (.mv, 1)] rfl ?_)
   refine ga rfl rfl rfl rfl ?_
   refine ga rfl rfl rfl rfl ?_
   refine gr_nil (gk_then ?_)
   refine gc_ret ?_
   refine gk_ret_then ?_
   refine gk_perm (L' := [(b6, .cells (encId (nameOf o)).toArray 34 (0, 0)), (b3, .cells (encOp o pv).toArray 38 (0, 0))] ++ ([] ++ ((b, .cells [v0, v1, v2, v3].toArray 48 (0, 0)) :: (C0 ++ (C1 ++ (C2 ++ (C3 ++ L))))))) (by haveI : DecidableEq (Nat × Obj) := fun _ _ => Classical.propDecidable _; rw [List.perm_iff_count]; intro a; simp only [List.count_append, List.count_cons, List.count_nil]; ac_rfl) ?_
   refine gk_result (L' := [] ++ ((b, .cells [v0, v1, v2, v3].toArray 48 (0, 0)) :: (C0 ++ (C1 ++ (C2 ++ (C3 ++ L)))))) (.inl rfl) _ (res2 rfl rfl rfl) (List.sublist_append_right _ _) (Gh.le_refl _) ?_
   exact ⟨v0, v1, v2, v3, ov, wv, C0, C1, C2, C3, [], _, by rw [ht]; exact hS, by rw [ht]; exact Ow.nil, by rw [ht], rfl, rfl⟩
  ·skip
   refine gm rfl rfl rfl rfl ?_
   refine gr_rd rfl rfl rfl (rd_loadA Tryd.ta34 rfl (Cells.own (l := encId (nameOf o)) (T := 34) (z := (0, 0)) (by simp [baseL])) (Seg.all _) (encId_length _)) ?_
   refine gr_nx rfl rfl rfl (nx_call Tryd.en54 rfl (rwaiting_cc _ _ (hS.view (L := _) (T := 48) (z := (0, 0)) (by omega) (by simp [baseL]) (by intro x hx; simp [baseL, hx]) (by intro x hx; simp [baseL, hx]) (by intro x hx; simp [baseL, hx]) (by intro x hx; simp [baseL, hx])) (nameOf o))) ?_; rintro v25 H' L' hle ⟨rfl, rfl, rfl⟩; refine ⟨trivial, ?_⟩
   (first | refine gpt rfl rfl rfl rfl rfl ?_ | refine gpf rfl rfl rfl rfl rfl ?_)
   refine gr_nil (gk_then ?_)
   refine gc_cond rfl (fun hc1 => ?_) (fun hc1 => ?_)
   ·have ht : take s o = (s, [], 9) := by rw [take, if_neg (by simpa using hc0), if_pos (by rw [← has_pos]; simp_all)]
    refine gc_seq (gc_seqr [(.mv, 0), (.mv, 1)] rfl ?_)
    refine ga rfl rfl rfl rfl ?_
    refine ga rfl rfl rfl rfl ?_
    refine gr_nil (gk_then ?_)
    refine gc_ret ?_
    refine gk_ret_then ?_
    refine gk_perm (L' := [(b6, .cells (encId (nameOf o)).toArray 34 (0, 0)), (b3, .cells (encOp o pv).toArray 38 (0, 0))] ++ ([] ++ ((b, .cells [v0, v1, v2, v3].toArray 48 (0, 0)) :: (C0 ++ (C1 ++ (C2 ++ (C3 ++ L))))))) (by haveI : DecidableEq (Nat × Obj) := fun _ _ => Classical.propDecidable _; rw [List.perm_iff_count]; intro a; simp only [List.count_append, List.count_cons, List.count_nil]; ac_rfl) ?_
    refine gk_result (L' := [] ++ ((b, .cells [v0, v1, v2, v3].toArray 48 (0, 0)) :: (C0 ++ (C1 ++ (C2 ++ (C3 ++ L)))))) (.inl rfl) _ (res2 rfl rfl rfl) (List.sublist_append_right _ _) (Gh.le_refl _) ?_
    exact ⟨v0, v1, v2, v3, ov, wv, C0, C1, C2, C3, [], _, by rw [ht]; exact hS, by rw [ht]; exact Ow.nil, by rw [ht], rfl, rfl⟩
   ·have hh : (has s.ops (nameOf o) || has s.wait (nameOf o)) = false := by rw [← has_pos]; simp_all
    refine gc_skip ?_
    refine gk_then ?_
    refine gc_seq ?_
    refine gc_seq (gc_seqr [(.mv, 0), (.mv, 1), (.nm, 2), (.mv, 3)] rfl ?_)
    refine gm rfl rfl rfl rfl ?_
    refine gr_rd rfl rfl rfl (rd_loadA Tryd.ta38 rfl (Cells.own (l := encOp o pv) (T := 38) (z := (0, 0)) (by simp [baseL])) (Seg.all _) (encOp_length _ _)) ?_
    refine gr_nx rfl rfl rfl (nx_call Tryd.en55 rfl (rwhole_cc _ _ (hS.view (L := _) (T := 48) (z := (0, 0)) (by omega) (by simp [baseL]) (by intro x hx; simp [baseL, hx]) (by intro x hx; simp [baseL, hx]) (by intro x hx; simp [baseL, hx]) (by intro x hx; simp [baseL, hx])) o pv hp.any)) ?_; rintro v29 H' L' hle ⟨rfl, rfl, rfl⟩; refine ⟨trivial, ?_⟩
    refine gr_rd rfl rfl rfl (rd_not rfl) ?_
    refine gr_nil (gk_then ?_)
    refine gc_cond rfl (fun hc2 => ?_) (fun hc2 => ?_)
    ·have hw : whole s o = false := by simpa using hc2
     have ht : take s o = (⟨s.ops, s.wait ++ [(nameOf o, o)]⟩, [], 0) := by rw [take, if_neg (by simpa using hc0), if_neg (by simp [hh]), if_pos (by simp [hw])]
     refine gc_seq ?_
     refine gc_draw Tryd.mixed [(.mv, 0), (.mv, 1), (.mv, 2), (.mv, 3), (.mv, 4), (.mv, 5), (.nm, 6), (.nm, 7), (.mv, 8), (.mv, 9), (.fin, 10)] (by decide +kernel) [(b6, .cells (encId (nameOf o)).toArray 34 (0, 0)), (b3, .cells (encOp o pv).toArray 38 (0, 0)), (b, .cells [v0, v1, v2, v3].toArray 48 (0, 0))] ((List.Sublist.cons_cons _ (List.Sublist.cons_cons _ (List.Sublist.cons_cons _ (List.nil_sublist _))))) ?_
     refine gm rfl rfl rfl rfl ?_
     refine gm rfl rfl rfl rfl ?_
     refine gr_rd rfl rfl rfl (rd_nilCheck rfl) ?_
     refine gr_rd rfl rfl rfl (rd_fieldAddr Tryd.fa48_1 rfl) ?_
     refine gr_rd rfl rfl rfl (rd_load1 Tryd.to25 rfl (Cells.own (l := [v0, v1, v2, v3]) (T := 48) (z := (0, 0)) (by simp [baseL])) rfl) ?_
     refine gr_rd rfl rfl rfl (rd_loadA Tryd.ta38 rfl (Cells.own (l := encOp o pv) (T := 38) (z := (0, 0)) (by simp [baseL])) (Seg.all _) (encOp_length _ _)) ?_
     refine gr_nx rfl rfl rfl (nx_sliceA1 Tryd.underlying25 Tryd.sizeOf38 Tryd.zeroValue38 rfl rfl rfl lnk rfl) ?_; rintro _ _ _ _ ⟨b37, rfl, rfl, rfl⟩; refine ⟨kp, ?_⟩
     refine gr_nx rfl rfl rfl (nx_append (m := 1) Tryd.app25_25 rfl rfl hS.wait pik (src_slice (b := b37) (o := 0) (l := encOp o pv) (m := 1) (by simp) (encOp_ones _ hp.one) (fun h => by cases h) (fun _ _ => ⟨rfl, Cells.own List.mem_cons_self, Seg.all _⟩)) (by omega) (by omega)) ?_; rintro v38 H' L' hle ⟨D1, hD1, _, rfl, rfl⟩; refine ⟨kp, ?_⟩
     refine gr_drop (L' := D1 ++ ((b6, .cells (encId (nameOf o)).toArray 34 (0, 0)) :: (b3, .cells (encOp o pv).toArray 38 (0, 0)) :: (b, .cells [v0, v1, v2, v3].toArray 48 (0, 0)) :: (C0 ++ (C2 ++ (C3 ++ L))))) sbl ?_
     refine gr_rd rfl rfl rfl (rd_nilCheck rfl) ?_
     refine gr_rd rfl rfl rfl (rd_fieldAddr Tryd.fa48_1 rfl) ?_
     refine gr_fin0 rfl rfl (nx_store (vs := [_]) Tryd.sizeOf25 rfl rfl (cells1 (Ow.one hD1)) rfl upd (by simp) (oneCells_cons (Ow.one hD1) oneCells_nil)) ?_; rintro _ _ _ _ ⟨rfl, rfl, rfl⟩
     refine gr_nil (gk_then ?_)
     refine gc_seq ?_
     refine gc_draw Tryd.mixed [(.mv, 0), (.mv, 1), (.mv, 2), (.mv, 3), (.mv, 4), (.mv, 5), (.nm, 6), (.nm, 7), (.mv, 8), (.mv, 9), (.fin, 10)] (by decide +kernel) [(b6, .cells (encId (nameOf o)).toArray 34 (0, 0)), (b3, .cells (encOp o pv).toArray 38 (0, 0)), (b, .cells [v0, v38, v2, v3].toArray 48 (0, 0))] (((List.Sublist.cons_cons _ (List.Sublist.cons_cons _ (List.Sublist.cons_cons _ (List.nil_sublist _)))).trans (List.sublist_append_right _ _))) ?_
     refine gm rfl rfl rfl rfl ?_
     refine gm rfl rfl rfl rfl ?_
     refine gr_rd rfl rfl rfl (rd_nilCheck rfl) ?_
     refine gr_rd rfl rfl rfl (rd_fieldAddr Tryd.fa48_3 rfl) ?_
     refine gr_rd rfl rfl rfl (rd_load1 Tryd.to29 rfl (Cells.own (l := [v0, v38, v2, v3]) (T := 48) (z := (0, 0)) (by simp [baseL])) rfl) ?_
     refine gr_rd rfl rfl rfl (rd_loadA Tryd.ta34 rfl (Cells.own (l := encId (nameOf o)) (T := 34) (z := (0, 0)) (by simp [baseL])) (Seg.all _) (encId_length _)) ?_
     refine gr_nx rfl rfl rfl (nx_sliceA1 Tryd.underlying29 Tryd.sizeOf34 Tryd.zeroValue34 rfl rfl rfl lnk rfl) ?_; rintro _ _ _ _ ⟨b47, rfl, rfl, rfl⟩; refine ⟨kp, ?_⟩
     refine gr_nx rfl rfl rfl (nx_append (m := 1) Tryd.app29_29 rfl rfl hS.waits pik (src_slice (b := b47) (o := 0) (l := encId (nameOf o)) (m := 1) (by simp) (encId_ones _) (fun h => by cases h) (fun _ _ => ⟨rfl, Cells.own List.mem_cons_self, Seg.all _⟩)) (by omega) (by omega)) ?_; rintro v48 H' L' hle ⟨D3, hD3, _, rfl, rfl⟩; refine ⟨kp, ?_⟩
     refine gr_drop (L' := D3 ++ (D1 ++ ((b6, .cells (encId (nameOf o)).toArray 34 (0, 0)) :: (b3, .cells (encOp o pv).toArray 38 (0, 0)) :: (b, .cells [v0, v38, v2, v3].toArray 48 (0, 0)) :: (C0 ++ (C2 ++ L))))) sbl ?_
     refine gr_rd rfl rfl rfl (rd_nilCheck rfl) ?_
     refine gr_rd rfl rfl rfl (rd_fieldAddr Tryd.fa48_3 rfl) ?_
     refine gr_fin0 rfl rfl (nx_store (vs := [_]) Tryd.sizeOf29 rfl rfl (cells1 (Ow.one hD3)) rfl upd (by simp) (oneCells_cons (Ow.one hD3) oneCells_nil)) ?_; rintro _ _ _ _ ⟨rfl, rfl, rfl⟩
     refine gr_nil (gk_then ?_)
     refine gc_seq (gc_seqr [(.mv, 0), (.mv, 1)] rfl ?_)
     refine ga rfl rfl rfl rfl ?_
     refine ga rfl rfl rfl rfl ?_
     refine gr_nil (gk_then ?_)
     refine gc_ret ?_
     refine gk_ret_then ?_
     refine gk_perm (L' := [(b6, .cells (encId (nameOf o)).toArray 34 (0, 0)), (b3, .cells (encOp o pv).toArray 38 (0, 0))] ++ ([] ++ ((b, .cells [v0, v38, v2, v48].toArray 48 (0, 0)) :: (C0 ++ (D1 ++ (C2 ++ (D3 ++ L))))))) (by haveI : DecidableEq (Nat × Obj) := fun _ _ => Classical.propDecidable _; rw [List.perm_iff_count]; intro a; simp only [List.count_append, List.count_cons, List.count_nil]; ac_rfl) ?_
     refine gk_result (L' := [] ++ ((b, .cells [v0, v38, v2, v48].toArray 48 (0, 0)) :: (C0 ++ (D1 ++ (C2 ++ (D3 ++ L)))))) (.inl rfl) _ (res2 rfl rfl rfl) (List.sublist_append_right _ _) (Gh.le_refl _) ?_
     refine ⟨v0, v38, v2, v48, ov, wv ++ [(o, pv)], C0, D1, C2, D3, [], _, ?_, by rw [ht]; exact Ow.nil, by rw [ht], rfl, rfl⟩
     rw [ht]
     exact ⟨hS.ops, hS.opsE, by simpa [encOpV] using hD1, by simp [hS.waitE], hS.names, by simpa using hD3, hS.preds, fun p hp' => (List.mem_append.1 hp').elim (hS.predsW p) (fun h => by cases List.mem_singleton.1 h; exact hp)⟩
    ·have hwt : whole s o = true := by simpa using hc2
     have hall : ∀ n ∈ o.preds, has s.ops n = true := by simpa [whole] using hwt
     refine gc_skip ?_
     refine gk_then ?_
     refine gc_seq ?_
     refine gc_seq ?_
     refine gc_draw Tryd.mixed [(.mv, 0), (.mv, 1), (.mv, 2), (.mv, 3), (.nm, 4), (.mv, 5)] (by decide +kernel) _ (List.Sublist.refl _) ?_
     refine gr_rd rfl rfl rfl (rd_fieldAddr Tryd.fa38_2 rfl) ?_
     refine gr_rd rfl rfl rfl (rd_load1 Tryd.to3 rfl cel at1) ?_
     refine gm rfl rfl rfl rfl ?_
     refine gr_rd rfl rfl rfl (rd_loadA Tryd.ta38 rfl (Cells.own (l := encOp o pv) (T := 38) (z := (0, 0)) (by simp [baseL])) (Seg.all _) (encOp_length _ _)) ?_
     refine gr_nx rfl rfl rfl (nx_call Tryd.en56 rfl (rdepth_cc _ _ (hS.view (L := _) (T := 48) (z := (0, 0)) (by omega) (by simp [baseL]) (by intro x hx; simp [baseL, hx]) (by intro x hx; simp [baseL, hx]) (by intro x hx; simp [baseL, hx]) (by intro x hx; simp [baseL, hx])) o pv hp.any hall)) ?_; rintro v55 H' L' hle ⟨rfl, rfl, rfl⟩; refine ⟨kp, ?_⟩
     refine gr_rd rfl rfl rfl (rd_neq rfl rfl) ?_
     refine gr_nil (gk_then ?_)
     refine gc_cond rfl (fun hc3 => ?_) (fun hc3 => ?_)
     ·have hd : o.depth ≠ depthOf s o.preds := iN_t.1 hc3
      have ht : take s o = (s, [], 10) := by rw [take, if_neg (by simpa using hc0), if_neg (by simp [hh]), if_neg (by simp [hwt]), if_pos hd]
      refine gc_seq (gc_seqr [(.mv, 0), (.mv, 1)] rfl ?_)
      refine ga rfl rfl rfl rfl ?_
      refine ga rfl rfl rfl rfl ?_
      refine gr_nil (gk_then ?_)
      refine gc_ret ?_
      refine gk_ret_then ?_
      refine gk_perm (L' := [(b6, .cells (encId (nameOf o)).toArray 34 (0, 0)), (b3, .cells (encOp o pv).toArray 38 (0, 0))] ++ ([] ++ ((b, .cells [v0, v1, v2, v3].toArray 48 (0, 0)) :: (C0 ++ (C1 ++ (C2 ++ (C3 ++ L))))))) (by haveI : DecidableEq (Nat × Obj) := fun _ _ => Classical.propDecidable _; rw [List.perm_iff_count]; intro a; simp only [List.count_append, List.count_cons, List.count_nil]; ac_rfl) ?_
      refine gk_result (L' := [] ++ ((b, .cells [v0, v1, v2, v3].toArray 48 (0, 0)) :: (C0 ++ (C1 ++ (C2 ++ (C3 ++ L)))))) (.inl rfl) _ (res2 rfl rfl rfl) (List.sublist_append_right _ _) (Gh.le_refl _) ?_
      exact ⟨v0, v1, v2, v3, ov, wv, C0, C1, C2, C3, [], _, by rw [ht]; exact hS, by rw [ht]; exact Ow.nil, by rw [ht], rfl, rfl⟩
     ·have hd : ¬ o.depth ≠ depthOf s o.preds := by simpa using hc3
      obtain ⟨s1, hs1⟩ : ∃ s1 : DSet, (⟨s.ops ++ [(nameOf o, o)], s.wait⟩ : DSet) = s1 := ⟨_, rfl⟩
      have ht : take s o = ((Tr.settle (s.wait.length + 1) s1 [nameOf o]).1, (Tr.settle (s.wait.length + 1) s1 [nameOf o]).2, 0) := by rw [take, if_neg (by simpa using hc0), if_neg (by simp [hh]), if_neg (by simp [hwt]), if_neg hd, hs1]
      refine gc_skip ?_
      refine gk_then ?_
      refine gc_seq ?_
      refine gc_draw Tryd.mixed [(.mv, 0), (.mv, 1), (.mv, 2), (.mv, 3), (.mv, 4), (.mv, 5), (.nm, 6), (.nm, 7), (.mv, 8), (.mv, 9), (.fin, 10)] (by decide +kernel) [(b6, .cells (encId (nameOf o)).toArray 34 (0, 0)), (b3, .cells (encOp o pv).toArray 38 (0, 0)), (b, .cells [v0, v1, v2, v3].toArray 48 (0, 0))] ((List.Sublist.cons_cons _ (List.Sublist.cons_cons _ (List.Sublist.cons_cons _ (List.nil_sublist _))))) ?_
      refine gm rfl rfl rfl rfl ?_
      refine gm rfl rfl rfl rfl ?_
      refine gr_rd rfl rfl rfl (rd_nilCheck rfl) ?_
      refine gr_rd rfl rfl rfl (rd_fieldAddr Tryd.fa48_0 rfl) ?_
      refine gr_rd rfl rfl rfl (rd_load1 Tryd.to25 rfl (Cells.own (l := [v0, v1, v2, v3]) (T := 48) (z := (0, 0)) (by simp [baseL])) rfl) ?_
      refine gr_rd rfl rfl rfl (rd_loadA Tryd.ta38 rfl (Cells.own (l := encOp o pv) (T := 38) (z := (0, 0)) (by simp [baseL])) (Seg.all _) (encOp_length _ _)) ?_
      refine gr_nx rfl rfl rfl (nx_sliceA1 Tryd.underlying25 Tryd.sizeOf38 Tryd.zeroValue38 rfl rfl rfl lnk rfl) ?_; rintro _ _ _ _ ⟨b63, rfl, rfl, rfl⟩; refine ⟨kp, ?_⟩
      refine gr_nx rfl rfl rfl (nx_append (m := 1) Tryd.app25_25 rfl rfl hS.ops pik (src_slice (b := b63) (o := 0) (l := encOp o pv) (m := 1) (by simp) (encOp_ones _ hp.one) (fun h => by cases h) (fun _ _ => ⟨rfl, Cells.own List.mem_cons_self, Seg.all _⟩)) (by omega) (by omega)) ?_; rintro v64 H' L' hle ⟨E0, hE0, _, rfl, rfl⟩; refine ⟨kp, ?_⟩
      refine gr_drop (L' := E0 ++ ((b6, .cells (encId (nameOf o)).toArray 34 (0, 0)) :: (b3, .cells (encOp o pv).toArray 38 (0, 0)) :: (b, .cells [v0, v1, v2, v3].toArray 48 (0, 0)) :: (C1 ++ (C2 ++ (C3 ++ L))))) sbl ?_
      refine gr_rd rfl rfl rfl (rd_nilCheck rfl) ?_
      refine gr_rd rfl rfl rfl (rd_fieldAddr Tryd.fa48_0 rfl) ?_
      refine gr_fin0 rfl rfl (nx_store (vs := [_]) Tryd.sizeOf25 rfl rfl (cells1 (Ow.one hE0)) rfl upd (by simp) (oneCells_cons (Ow.one hE0) oneCells_nil)) ?_; rintro _ _ _ _ ⟨rfl, rfl, rfl⟩
      refine gr_nil (gk_then ?_)
      refine gc_seq ?_
      refine gc_draw Tryd.mixed [(.mv, 0), (.mv, 1), (.mv, 2), (.mv, 3), (.mv, 4), (.mv, 5), (.nm, 6), (.nm, 7), (.mv, 8), (.mv, 9), (.fin, 10)] (by decide +kernel) [(b6, .cells (encId (nameOf o)).toArray 34 (0, 0)), (b3, .cells (encOp o pv).toArray 38 (0, 0)), (b, .cells [v64, v1, v2, v3].toArray 48 (0, 0))] (((List.Sublist.cons_cons _ (List.Sublist.cons_cons _ (List.Sublist.cons_cons _ (List.nil_sublist _)))).trans (List.sublist_append_right _ _))) ?_
      refine gm rfl rfl rfl rfl ?_
      refine gm rfl rfl rfl rfl ?_
      refine gr_rd rfl rfl rfl (rd_nilCheck rfl) ?_
      refine gr_rd rfl rfl rfl (rd_fieldAddr Tryd.fa48_2 rfl) ?_
      refine gr_rd rfl rfl rfl (rd_load1 Tryd.to29 rfl (Cells.own (l := [v64, v1, v2, v3]) (T := 48) (z := (0, 0)) (by simp [baseL])) rfl) ?_
      refine gr_rd rfl rfl rfl (rd_loadA Tryd.ta34 rfl (Cells.own (l := encId (nameOf o)) (T := 34) (z := (0, 0)) (by simp [baseL])) (Seg.all _) (encId_length _)) ?_
      refine gr_nx rfl rfl rfl (nx_sliceA1 Tryd.underlying29 Tryd.sizeOf34 Tryd.zeroValue34 rfl rfl rfl lnk rfl) ?_; rintro _ _ _ _ ⟨b73, rfl, rfl, rfl⟩; refine ⟨kp, ?_⟩
      refine gr_nx rfl rfl rfl (nx_append (m := 1) Tryd.app29_29 rfl rfl hS.names pik (src_slice (b := b73) (o := 0) (l := encId (nameOf o)) (m := 1) (by simp) (encId_ones _) (fun h => by cases h) (fun _ _ => ⟨rfl, Cells.own List.mem_cons_self, Seg.all _⟩)) (by omega) (by omega)) ?_; rintro v74 H' L' hle ⟨E2, hE2, _, rfl, rfl⟩; refine ⟨kp, ?_⟩
      refine gr_drop (L' := E2 ++ (E0 ++ ((b6, .cells (encId (nameOf o)).toArray 34 (0, 0)) :: (b3, .cells (encOp o pv).toArray 38 (0, 0)) :: (b, .cells [v64, v1, v2, v3].toArray 48 (0, 0)) :: (C1 ++ (C3 ++ L))))) sbl ?_
      refine gr_rd rfl rfl rfl (rd_nilCheck rfl) ?_
      refine gr_rd rfl rfl rfl (rd_fieldAddr Tryd.fa48_2 rfl) ?_
      refine gr_fin0 rfl rfl (nx_store (vs := [_]) Tryd.sizeOf29 rfl rfl (cells1 (Ow.one hE2)) rfl upd (by simp) (oneCells_cons (Ow.one hE2) oneCells_nil)) ?_; rintro _ _ _ _ ⟨rfl, rfl, rfl⟩
      refine gr_nil (gk_then ?_)
      refine gc_seq (gc_seqr [(.mv, 0), (.nm, 1), (.mv, 2)] rfl ?_)
      refine gr_rd rfl rfl rfl (rd_loadA Tryd.ta34 rfl (Cells.own (l := encId (nameOf o)) (T := 34) (z := (0, 0)) (by simp [baseL])) (Seg.all _) (encId_length _)) ?_
      refine gr_nx rfl rfl rfl (nx_sliceA1 Tryd.underlying29 Tryd.sizeOf34 Tryd.zeroValue34 rfl rfl rfl lnk rfl) ?_; rintro _ _ _ _ ⟨b78, rfl, rfl, rfl⟩; refine ⟨trivial, ?_⟩
      refine ga rfl rfl rfl rfl ?_
      have hS1 : RSet H s1 v64 v1 v74 v3 (ov ++ [(o, pv)]) wv E0 C1 E2 C3 := by
        rw [← hs1]
        exact ⟨by simpa [encOpV] using hE0, by simp [hS.opsE], hS.wait, hS.waitE, by simpa using hE2, hS.waits, fun p hp' => (List.mem_append.1 hp').elim (hS.preds p) (fun h => by cases List.mem_singleton.1 h; exact hp), hS.predsW⟩
      refine gr_perm (L' := [(b6, .cells (encId (nameOf o)).toArray 34 (0, 0)), (b3, .cells (encOp o pv).toArray 38 (0, 0))] ++ ([(b78, .cells (encId (nameOf o)).toArray 34 (0, 0))] ++ ((b, .cells [v64, v1, v74, v3].toArray 48 (0, 0)) :: (E0 ++ (C1 ++ (E2 ++ (C3 ++ L))))))) (by haveI : DecidableEq (Nat × Obj) := fun _ _ => Classical.propDecidable _; rw [List.perm_iff_count]; intro a; simp only [List.count_append, List.count_cons, List.count_nil]; ac_rfl) ?_
      refine gr_drop (L' := [(b78, .cells (encId (nameOf o)).toArray 34 (0, 0))] ++ ((b, .cells [v64, v1, v74, v3].toArray 48 (0, 0)) :: (E0 ++ (C1 ++ (E2 ++ (C3 ++ L)))))) (List.sublist_append_right _ _) ?_
      refine gr_nil (gk_then ?_)
      refine gc_block ?_
      refine gc_loop (fun t : LS => [(0, pt b 0), (7, t.vo)]) (fun t H1 L1 => H = H1 ∧ L1 = t.Co ++ ((b, .cells [t.w0, t.w1, t.w2, t.w3].toArray 48 (0, 0)) :: (t.D0 ++ (t.D1 ++ (t.D2 ++ (t.D3 ++ L))))) ∧ RSet H t.s t.w0 t.w1 t.w2 t.w3 t.ov t.wv t.D0 t.D1 t.D2 t.D3 ∧ Ow 34 32 t.Co t.vo t.out.length (t.out.flatMap encId) ∧ t.s.ops.length + t.s.wait.length ≤ s.ops.length + s.wait.length + 1 ∧ t.out.length + t.s.wait.length ≤ s.wait.length + 1 ∧ t.s.wait.length < t.k ∧ Tr.settle t.k t.s t.out = Tr.settle (s.wait.length + 1) s1 [nameOf o]) (fun t => t.s.wait.length) (⟨s.wait.length + 1, s1, [nameOf o], v64, v1, v74, v3, ov ++ [(o, pv)], wv, E0, C1, E2, C3, [(b78, .cells (encId (nameOf o)).toArray 34 (0, 0))], .slice (some ⟨b78, 0, none⟩) 1 1⟩) ?_ sbs ?_
      ·refine ⟨rfl, rfl, hS1, by simpa using Ow.new (by simp), ?_, ?_, ?_, rfl⟩
       · rw [← hs1]; simp; omega
       · rw [← hs1]; simp; omega
       · rw [← hs1]; simp
      ·rintro ⟨k, s', out, w0, w1, w2, w3, ov', wv', D0, D1, D2, D3, Co, vo⟩ H1 L1 ⟨rfl, rfl, hS', hO, hz1, hz2, hk, hset⟩
       simp only at hS' hO hz1 hz2 hk hset
       show GC _ _ _ _ [(0, pt b 0), (7, vo)] H (Co ++ ((b, .cells [w0, w1, w2, w3].toArray 48 (0, 0)) :: (D0 ++ (D1 ++ (D2 ++ (D3 ++ L))))))
       obtain ⟨hlo', hlw'⟩ := hS'.lens
       have hV := hS'.view (b := b) (T := 48) (z := (0, 0)) (L := Co ++ ((b, .cells [w0, w1, w2, w3].toArray 48 (0, 0)) :: (D0 ++ (D1 ++ (D2 ++ (D3 ++ L)))))) (by omega) (by simp) (by intro x hx; simp [baseL, hx]) (by intro x hx; simp [baseL, hx]) (by intro x hx; simp [baseL, hx]) (by intro x hx; simp [baseL, hx])
       obtain ⟨⟨Aw, bw, ow, cw, lw, hwe, hcw, hnw, hw0, hw1, hw2⟩, hpw⟩ := hV.wait
       obtain ⟨ns, hns⟩ : ∃ ns, s'.wait.map (·.1) = ns := ⟨_, rfl⟩
       have hN := hV.waits
       rw [hns] at hN
       obtain ⟨An, bn, on, cn, ln, hne, hcn, hnn, hn0, hn1, hn2⟩ := hN
       refine gc_block ?_
       refine gc_seq (gc_seqr [(.mv, 0)] rfl ?_)
       refine ga rfl rfl rfl rfl ?_
       refine gr_nil (gk_then ?_)
       refine gc_seq ?_
       refine gc_seq (gc_seqr [(.mv, 0), (.mv, 1), (.mv, 2), (.mv, 3), (.mv, 4), (.mv, 5)] rfl ?_)
       refine gm rfl rfl rfl rfl ?_
       refine gr_rd rfl rfl rfl (rd_nilCheck rfl) ?_
       refine gr_rd rfl rfl rfl (rd_fieldAddr Tryd.fa48_1 rfl) ?_
       refine gr_rd rfl rfl rfl (rd_load1 Tryd.to25 rfl (hV.cells) (v := .slice Aw wv'.length cw) (by rw [← hwe]; rfl)) ?_
       refine gr_rd rfl rfl rfl (rd_lenS Tryd.underlying25 rfl) ?_
       refine gm rfl rfl rfl rfl ?_
       refine gr_nil (gk_then ?_)
       refine gc_block ?_
       refine gc_loop (fun t : Nat × Option (Nat × Nm) => [(0, pt b 0), (7, vo), (8, i64 (bestI t.2)), (82, .slice Aw wv'.length cw), (83, i64 wv'.length), (84, i64 t.1)]) (fun t H1 L1 => H = H1 ∧ Co ++ ((b, .cells [w0, w1, w2, w3].toArray 48 (0, 0)) :: (D0 ++ (D1 ++ (D2 ++ (D3 ++ L))))) = L1 ∧ t.1 ≤ wv'.length ∧ bestOf s' (s'.wait.drop t.1) t.1 t.2 = bestOf s' s'.wait 0 none ∧ ∀ m n, t.2 = some (m, n) → m < t.1 ∧ ns[m]? = some n) (fun t => wv'.length - t.1) ((0, none)) ?_ sbs ?_
       ·exact ⟨rfl, rfl, Nat.zero_le _, rfl, fun m n h => by cases h⟩
       ·rintro ⟨i, bst⟩ H1 L1 ⟨rfl, rfl, hi, hbo, hbst⟩
        simp only at hi hbo hbst
        show GC _ _ _ _ [(0, pt b 0), (7, vo), (8, i64 (bestI bst)), (82, .slice Aw wv'.length cw), (83, i64 wv'.length), (84, i64 i)] H (Co ++ ((b, .cells [w0, w1, w2, w3].toArray 48 (0, 0)) :: (D0 ++ (D1 ++ (D2 ++ (D3 ++ L))))))
        refine gc_seq (gc_seqr [(.mv, 0)] rfl ?_)
        refine gr_rd rfl rfl rfl (rd_lss rfl rfl) ?_
        refine gr_nil (gk_then ?_)
        refine gc_seq ?_
        refine gc_cond rfl (fun hc4 => ?_) (fun hc4 => ?_)
        ·have hlt : i < wv'.length := by simpa using hc4
         obtain ⟨hAw, hcw'⟩ := hw1 (List.ne_nil_of_length_pos (by omega))
         have hsw := hw2 i _ (List.getElem?_eq_getElem hlt)
         have hni : i < ns.length := by rw [← hns, List.length_map]; omega
         have hwi : s'.wait[i]? = some (ns.getD i Nm.zero, (wv'[i]).1) := by
           have h1 : (s'.wait.map (·.1))[i]? = some (ns.getD i Nm.zero) := by rw [hns]; exact getD_at hni
           have h2 : (s'.wait.map (·.2))[i]? = some (wv'[i]).1 := by rw [← hS'.waitE]; simp [hlt]
           rw [List.getElem?_map] at h1 h2
           cases hx : s'.wait[i]? with
           | none => rw [hx] at h1; cases h1
           | some q => rw [hx] at h1 h2; simp only [Option.map_some, Option.some.injEq] at h1 h2; rw [← h1, ← h2]
         have hstep := bestOf_step (s := s') (b := bst) hwi
         refine gc_skip ?_
         refine gk_then ?_
         refine gc_seq ?_
         refine gc_block ?_
         refine gc_seq (gc_seqr [(.mv, 0), (.mv, 1), (.mv, 2), (.nm, 3), (.mv, 4), (.nm, 5)] rfl ?_)
         refine gm rfl rfl rfl rfl ?_
         refine gr_rd rfl rfl rfl (rd_indexS Tryd.underlying25 Tryd.sizeOf38 rfl rfl hAw (by omega) (by omega)) ?_
         refine gr_rd rfl rfl rfl (rd_loadA Tryd.ta38 rfl hcw' (by rw [Int.toNat_natCast]; exact hsw) (encOpV_length _)) ?_
         refine gr_nx rfl rfl rfl (nx_alloc Tryd.zeroValue38 rfl) ?_; rintro _ _ _ _ ⟨b10, rfl, rfl, rfl⟩; refine ⟨trivial, ?_⟩
         refine ga rfl rfl rfl rfl ?_
         refine gr_nx0 rfl rfl (nx_store (vs := encOpV wv'[i]) Tryd.sizeOf38 rfl rfl rfl (encOpV_length _) Upd.here (by simp) (encOp_ones _ (SlT.one (hpw _ (List.getElem_mem hlt))))) ?_; rintro _ _ _ _ ⟨rfl, rfl, rfl⟩; refine ⟨trivial, ?_⟩
         rw [wr_all (by simp)]
         refine gr_nil (gk_then ?_)
         refine gc_seq ?_
         refine gc_draw Tryd.mixed [(.mv, 0), (.mv, 1), (.nm, 2), (.mv, 3), (.mv, 4), (.mv, 5), (.mv, 6), (.mv, 7), (.mv, 8), (.mv, 9), (.mv, 10), (.mv, 11), (.mv, 12), (.mv, 13), (.mv, 14), (.mv, 15), (.mv, 16), (.mv, 17), (.mv, 18), (.mv, 19), (.mv, 20), (.fin, 21), (.fin, 22), (.fin, 23), (.fin, 24)] (by decide +kernel) _ (List.Sublist.refl _) ?_
         refine gm rfl rfl rfl rfl ?_
         refine gr_rd rfl rfl rfl (rd_loadA Tryd.ta38 rfl (Cells.own List.mem_cons_self) (Seg.all _) (encOpV_length _)) ?_
         refine gr_nx rfl rfl rfl (nx_call Tryd.en55 rfl (rwhole_cc _ _ (hV.mono (Gh.le_refl _) (fun x hx => List.mem_cons_of_mem _ hx)) (wv'[i]).1 (wv'[i]).2 (hpw _ (List.getElem_mem hlt)).any)) ?_; rintro v91 H' L' hle ⟨rfl, rfl, rfl⟩; refine ⟨kp, ?_⟩
         refine gm rfl rfl rfl rfl ?_
         refine gr_split rfl (fun hg3 => ?_) (fun hg3 => ?_)
         ·skip
          refine gm rfl rfl rfl rfl ?_
          refine gr_rd rfl rfl rfl (rd_lss rfl rfl) ?_
          refine gm rfl rfl rfl rfl ?_
          refine gr_split rfl (fun hg6 => ?_) (fun hg6 => ?_)
          ·have hb0 : bst = none := by cases bst with | none => rfl | some q => exact absurd (of_decide_eq_true hg6) (by obtain ⟨m, nm⟩ := q; show ¬ ((m : Int) < 0); omega)
           refine gr_no rfl rfl rfl ?_
           refine gr_no rfl rfl rfl ?_
           refine gr_no rfl rfl rfl ?_
           refine gr_no rfl rfl rfl ?_
           refine gr_no rfl rfl rfl ?_
           refine gr_no rfl rfl rfl ?_
           refine gr_no rfl rfl rfl ?_
           refine gr_no rfl rfl rfl ?_
           refine gr_no rfl rfl rfl ?_
           refine gr_no rfl rfl rfl ?_
           refine gr_no rfl rfl rfl ?_
           refine gr_no rfl rfl rfl ?_
           refine gr_no rfl rfl rfl ?_
           refine gr_no rfl rfl rfl ?_
           refine gr_no rfl rfl rfl ?_
           refine gr_no rfl rfl rfl ?_
           (first | (refine gr_fin rfl rfl rfl (Rd.nx (rd_pick_t rfl rfl)) ?_; rintro _ _ _ _ ⟨rfl, rfl, rfl⟩) | (refine gr_fin rfl rfl rfl (Rd.nx (rd_pick_f rfl rfl)) ?_; rintro _ _ _ _ ⟨rfl, rfl, rfl⟩))
           (first | (refine gr_fin rfl rfl rfl (Rd.nx (rd_pick_t rfl rfl)) ?_; rintro _ _ _ _ ⟨rfl, rfl, rfl⟩) | (refine gr_fin rfl rfl rfl (Rd.nx (rd_pick_f rfl rfl)) ?_; rintro _ _ _ _ ⟨rfl, rfl, rfl⟩))
           refine gr_nil (gk_then ?_)
           refine gc_yes rfl ?_
           refine gc_seqr [(.mv, 0), (.mv, 1)] rfl ?_
           refine gm rfl rfl rfl rfl ?_
           refine ga rfl rfl rfl rfl ?_
           refine gr_nil ?_
           refine gk_inBlock ?_
           refine gk_then ?_
           refine gc_seqr [(.mv, 0), (.mv, 1)] rfl ?_
           (first | refine gr_rd rfl rfl rfl (rd_add rfl rfl (IntWalk.i64_in _ (by omega))) ?_ | refine gr_rd rfl rfl rfl (rd_add rfl rfl rfl) ?_)
           refine gm rfl rfl rfl rfl ?_
           refine gr_nil ?_
           refine gk_drop (L' := Co ++ ((b, .cells [w0, w1, w2, w3].toArray 48 (0, 0)) :: (D0 ++ (D1 ++ (D2 ++ (D3 ++ L)))))) sbl ?_
           first
             | (have hne' : bestOf s' (s'.wait.drop (i + 1)) (i + 1) (some (i, ns.getD i Nm.zero)) = bestOf s' s'.wait 0 none := by
                  rw [← hbo, hstep]
                  first
                    | (rw [hb0]; simp only [hg3, Bool.and_self, if_true]; done)
                    | (simp only [hg3, hc5, Bool.and_self, if_true]; done)
                refine gk_round (i + 1, some (i, ns.getD i Nm.zero)) ?_ ⟨rfl, rfl, by simp only; omega, hne', fun m n h => ?_⟩ sbs
                · show wv'.length - (i + 1) < wv'.length - i
                  omega
                · cases h; exact ⟨by simp only; omega, getD_at hni⟩)
             | (refine gk_round (i + 1, _) ?_ ⟨rfl, rfl, by simp only; omega, ?_, fun m n h => ⟨by have := (hbst m n h).1; simp only; omega, (hbst m n h).2⟩⟩ sbs
                · show wv'.length - (i + 1) < wv'.length - i
                  omega
                · simp only
                  rw [← hbo, hstep]
                  first
                    | (simp only [hg3, Bool.false_and, Bool.false_eq_true, if_false]; done)
                    | (simp only [hg3, hc5, Bool.and_false, Bool.false_eq_true, if_false]; done))
          ·obtain ⟨m, nm, rfl⟩ : ∃ m nm, bst = some (m, nm) := by cases bst with | none => simp [bestI] at hg6 | some q => exact ⟨q.1, q.2, rfl⟩
           have hbi : bestI (some (m, nm)) = (m : Int) := rfl
           obtain ⟨hm1, hm2⟩ := hbst m nm rfl
           obtain ⟨hAn, hcn', hsi⟩ := ids_at2 (i := (i : Int)) hn1 hn2 hni rfl
           obtain ⟨_, _, hsm⟩ := ids_at2 (i := bestI (some (m, nm))) (j := m) hn1 hn2 (by omega) rfl
           have hnm : ns.getD m Nm.zero = nm := by rw [List.getD_eq_getElem?_getD, hm2]; rfl
           rw [hnm] at hsm
           refine gm rfl rfl rfl rfl ?_
           refine gr_rd rfl rfl rfl (rd_nilCheck rfl) ?_
           refine gr_rd rfl rfl rfl (rd_fieldAddr Tryd.fa48_3 rfl) ?_
           refine gr_rd rfl rfl rfl (rd_load1 Tryd.to29 rfl (mono_cons hV.cells) (v := .slice An ns.length cn) (by rw [← hne]; rfl)) ?_
           refine gm rfl rfl rfl rfl ?_
           refine gr_rd rfl rfl rfl (rd_indexS Tryd.underlying29 Tryd.sizeOf34 rfl rfl hAn (by omega) (by omega)) ?_
           refine gr_rd rfl rfl rfl (rd_loadA Tryd.ta34 rfl (mono_cons hcn') hsi (encId_length _)) ?_
           refine gm rfl rfl rfl rfl ?_
           refine gr_rd rfl rfl rfl (rd_nilCheck rfl) ?_
           refine gr_rd rfl rfl rfl (rd_fieldAddr Tryd.fa48_3 rfl) ?_
           refine gr_rd rfl rfl rfl (rd_load1 Tryd.to29 rfl (mono_cons hV.cells) (v := .slice An ns.length cn) (by rw [← hne]; rfl)) ?_
           refine gm rfl rfl rfl rfl ?_
           refine gr_rd rfl rfl rfl (rd_indexS Tryd.underlying29 Tryd.sizeOf34 rfl rfl hAn (by omega) (by omega)) ?_
           refine gr_rd rfl rfl rfl (rd_loadA Tryd.ta34 rfl (mono_cons hcn') hsm (encId_length _)) ?_
           refine gr_fin rfl rfl rfl (nx_call Tryd.en57 rfl (rcmp_cc _ _ _ _)) ?_; rintro v110 H' L' hle ⟨rfl, rfl, rfl⟩
           (refine gr_fin rfl rfl rfl (Rd.nx (rd_lss rfl rfl)) ?_; rintro _ _ _ _ ⟨rfl, rfl, rfl⟩)
           (first | (refine gr_fin rfl rfl rfl (Rd.nx (rd_pick_t rfl rfl)) ?_; rintro _ _ _ _ ⟨rfl, rfl, rfl⟩) | (refine gr_fin rfl rfl rfl (Rd.nx (rd_pick_f rfl rfl)) ?_; rintro _ _ _ _ ⟨rfl, rfl, rfl⟩))
           (first | (refine gr_fin rfl rfl rfl (Rd.nx (rd_pick_t rfl rfl)) ?_; rintro _ _ _ _ ⟨rfl, rfl, rfl⟩) | (refine gr_fin rfl rfl rfl (Rd.nx (rd_pick_f rfl rfl)) ?_; rintro _ _ _ _ ⟨rfl, rfl, rfl⟩))
           refine gr_nil (gk_then ?_)
           refine gc_cond rfl (fun hc5 => ?_) (fun hc5 => ?_)
           ·skip
            refine gc_seqr [(.mv, 0), (.mv, 1)] rfl ?_
            refine gm rfl rfl rfl rfl ?_
            refine ga rfl rfl rfl rfl ?_
            refine gr_nil ?_
            refine gk_inBlock ?_
            refine gk_then ?_
            refine gc_seqr [(.mv, 0), (.mv, 1)] rfl ?_
            (first | refine gr_rd rfl rfl rfl (rd_add rfl rfl (IntWalk.i64_in _ (by omega))) ?_ | refine gr_rd rfl rfl rfl (rd_add rfl rfl rfl) ?_)
            refine gm rfl rfl rfl rfl ?_
            refine gr_nil ?_
            refine gk_drop (L' := Co ++ ((b, .cells [w0, w1, w2, w3].toArray 48 (0, 0)) :: (D0 ++ (D1 ++ (D2 ++ (D3 ++ L)))))) sbl ?_
            first
              | (have hne' : bestOf s' (s'.wait.drop (i + 1)) (i + 1) (some (i, ns.getD i Nm.zero)) = bestOf s' s'.wait 0 none := by
                   rw [← hbo, hstep]
                   first
                     | (rw [hb0]; simp only [hg3, Bool.and_self, if_true]; done)
                     | (simp only [hg3, hc5, Bool.and_self, if_true]; done)
                 refine gk_round (i + 1, some (i, ns.getD i Nm.zero)) ?_ ⟨rfl, rfl, by simp only; omega, hne', fun m n h => ?_⟩ sbs
                 · show wv'.length - (i + 1) < wv'.length - i
                   omega
                 · cases h; exact ⟨by simp only; omega, getD_at hni⟩)
              | (refine gk_round (i + 1, _) ?_ ⟨rfl, rfl, by simp only; omega, ?_, fun m n h => ⟨by have := (hbst m n h).1; simp only; omega, (hbst m n h).2⟩⟩ sbs
                 · show wv'.length - (i + 1) < wv'.length - i
                   omega
                 · simp only
                   rw [← hbo, hstep]
                   first
                     | (simp only [hg3, Bool.false_and, Bool.false_eq_true, if_false]; done)
                     | (simp only [hg3, hc5, Bool.and_false, Bool.false_eq_true, if_false]; done))
           ·skip
            refine gc_skip ?_
            refine gk_inBlock ?_
            refine gk_then ?_
            refine gc_seqr [(.mv, 0), (.mv, 1)] rfl ?_
            (first | refine gr_rd rfl rfl rfl (rd_add rfl rfl (IntWalk.i64_in _ (by omega))) ?_ | refine gr_rd rfl rfl rfl (rd_add rfl rfl rfl) ?_)
            refine gm rfl rfl rfl rfl ?_
            refine gr_nil ?_
            refine gk_drop (L' := Co ++ ((b, .cells [w0, w1, w2, w3].toArray 48 (0, 0)) :: (D0 ++ (D1 ++ (D2 ++ (D3 ++ L)))))) sbl ?_
            first
              | (have hne' : bestOf s' (s'.wait.drop (i + 1)) (i + 1) (some (i, ns.getD i Nm.zero)) = bestOf s' s'.wait 0 none := by
                   rw [← hbo, hstep]
                   first
                     | (rw [hb0]; simp only [hg3, Bool.and_self, if_true]; done)
                     | (simp only [hg3, hc5, Bool.and_self, if_true]; done)
                 refine gk_round (i + 1, some (i, ns.getD i Nm.zero)) ?_ ⟨rfl, rfl, by simp only; omega, hne', fun m n h => ?_⟩ sbs
                 · show wv'.length - (i + 1) < wv'.length - i
                   omega
                 · cases h; exact ⟨by simp only; omega, getD_at hni⟩)
              | (refine gk_round (i + 1, _) ?_ ⟨rfl, rfl, by simp only; omega, ?_, fun m n h => ⟨by have := (hbst m n h).1; simp only; omega, (hbst m n h).2⟩⟩ sbs
                 · show wv'.length - (i + 1) < wv'.length - i
                   omega
                 · simp only
                   rw [← hbo, hstep]
                   first
                     | (simp only [hg3, Bool.false_and, Bool.false_eq_true, if_false]; done)
                     | (simp only [hg3, hc5, Bool.and_false, Bool.false_eq_true, if_false]; done))
         ·skip
          refine gr_no rfl rfl rfl ?_
          refine gr_no rfl rfl rfl ?_
          refine gr_no rfl rfl rfl ?_
          refine gr_no rfl rfl rfl ?_
          refine gr_no rfl rfl rfl ?_
          refine gr_no rfl rfl rfl ?_
          refine gr_no rfl rfl rfl ?_
          refine gr_no rfl rfl rfl ?_
          refine gr_no rfl rfl rfl ?_
          refine gr_no rfl rfl rfl ?_
          refine gr_no rfl rfl rfl ?_
          refine gr_no rfl rfl rfl ?_
          refine gr_no rfl rfl rfl ?_
          refine gr_no rfl rfl rfl ?_
          refine gr_no rfl rfl rfl ?_
          refine gr_no rfl rfl rfl ?_
          refine gr_no rfl rfl rfl ?_
          refine gr_no rfl rfl rfl ?_
          refine gr_no rfl rfl rfl ?_
          refine gr_no rfl rfl rfl ?_
          (first | (refine gr_fin rfl rfl rfl (Rd.nx (rd_pick_t rfl rfl)) ?_; rintro _ _ _ _ ⟨rfl, rfl, rfl⟩) | (refine gr_fin rfl rfl rfl (Rd.nx (rd_pick_f rfl rfl)) ?_; rintro _ _ _ _ ⟨rfl, rfl, rfl⟩))
          refine gr_nil (gk_then ?_)
          refine gc_no rfl ?_
          refine gc_skip ?_
          refine gk_inBlock ?_
          refine gk_then ?_
          refine gc_seqr [(.mv, 0), (.mv, 1)] rfl ?_
          (first | refine gr_rd rfl rfl rfl (rd_add rfl rfl (IntWalk.i64_in _ (by omega))) ?_ | refine gr_rd rfl rfl rfl (rd_add rfl rfl rfl) ?_)
          refine gm rfl rfl rfl rfl ?_
          refine gr_nil ?_
          refine gk_drop (L' := Co ++ ((b, .cells [w0, w1, w2, w3].toArray 48 (0, 0)) :: (D0 ++ (D1 ++ (D2 ++ (D3 ++ L)))))) sbl ?_
          first
            | (have hne' : bestOf s' (s'.wait.drop (i + 1)) (i + 1) (some (i, ns.getD i Nm.zero)) = bestOf s' s'.wait 0 none := by
                 rw [← hbo, hstep]
                 first
                   | (rw [hb0]; simp only [hg3, Bool.and_self, if_true]; done)
                   | (simp only [hg3, hc5, Bool.and_self, if_true]; done)
               refine gk_round (i + 1, some (i, ns.getD i Nm.zero)) ?_ ⟨rfl, rfl, by simp only; omega, hne', fun m n h => ?_⟩ sbs
               · show wv'.length - (i + 1) < wv'.length - i
                 omega
               · cases h; exact ⟨by simp only; omega, getD_at hni⟩)
            | (refine gk_round (i + 1, _) ?_ ⟨rfl, rfl, by simp only; omega, ?_, fun m n h => ⟨by have := (hbst m n h).1; simp only; omega, (hbst m n h).2⟩⟩ sbs
               · show wv'.length - (i + 1) < wv'.length - i
                 omega
               · simp only
                 rw [← hbo, hstep]
                 first
                   | (simp only [hg3, Bool.false_and, Bool.false_eq_true, if_false]; done)
                   | (simp only [hg3, hc5, Bool.and_false, Bool.false_eq_true, if_false]; done))
        ·have hil : i = wv'.length := by simp at hc4; omega
         subst hil
         rw [hlw', List.drop_length] at hbo
         have hbo2 : bst = bestOf s' s'.wait 0 none := hbo
         refine gc_exit ?_
         refine gk_exit_then ?_
         refine gk_exit_then ?_
         refine gk_here ?_
         refine gk_then ?_
         refine gc_seq ?_
         refine gc_seq (gc_seqr [(.mv, 0), (.mv, 1)] rfl ?_)
         refine gm rfl rfl rfl rfl ?_
         refine gr_rd rfl rfl rfl (rd_lss rfl rfl) ?_
         refine gr_nil (gk_then ?_)
         refine gc_cond rfl (fun hc6 => ?_) (fun hc6 => ?_)
         ·have hb0 : bst = none := by cases bst with | none => rfl | some q => exact absurd (of_decide_eq_true hc6) (by obtain ⟨m, nm⟩ := q; show ¬ ((m : Int) < 0); omega)
          refine gc_seq (gc_seqr [(.mv, 0), (.mv, 1), (.mv, 2)] rfl ?_)
          refine gm rfl rfl rfl rfl ?_
          refine ga rfl rfl rfl rfl ?_
          refine ga rfl rfl rfl rfl ?_
          refine gr_nil (gk_then ?_)
          refine gc_ret ?_
          refine gk_ret_then ?_
          refine gk_ret_inBlock ?_
          refine gk_ret_then ?_
          refine gk_ret_inBlock ?_
          refine gk_result (L' := Co ++ ((b, .cells [w0, w1, w2, w3].toArray 48 (0, 0)) :: (D0 ++ (D1 ++ (D2 ++ (D3 ++ L)))))) (.inl rfl) _ (res2 rfl rfl rfl) (List.Sublist.refl _) (Gh.le_refl _) ?_
          have hfin : Tr.settle k s' out = (s', out) := by
            cases k with
            | zero => rfl
            | succ k => rw [Tr.settle, ← hbo2, hb0]
          rw [hfin] at hset
          rw [← hset] at ht
          exact ⟨w0, w1, w2, w3, ov', wv', D0, D1, D2, D3, Co, vo, by rw [ht]; exact hS', by rw [ht]; exact hO, by rw [ht], rfl, rfl⟩
         ·obtain ⟨m, nm, hbm⟩ : ∃ m nm, bst = some (m, nm) := by cases bst with | none => exact absurd hc6 (by decide) | some q => exact ⟨q.1, q.2, rfl⟩
          obtain ⟨hm1, hm2⟩ := hbst m nm hbm
          subst hbm
          have hbi : bestI (some (m, nm)) = (m : Int) := rfl
          have hnl : ns.length = wv'.length := by rw [← hns, List.length_map]; omega
          obtain ⟨hAw, hcw'⟩ := hw1 (List.ne_nil_of_length_pos (by omega))
          have hsw := hw2 m _ (List.getElem?_eq_getElem hm1)
          obtain ⟨hAn, hcn', hsm⟩ := ids_at2 (i := bestI (some (m, nm))) (j := m) hn1 hn2 (by omega) rfl
          have hnm : ns.getD m Nm.zero = nm := by rw [List.getD_eq_getElem?_getD, hm2]; rfl
          rw [hnm] at hsm
          refine gc_skip ?_
          refine gk_then ?_
          refine gc_cut (fun q : Nat × Nat => [(0, pt b 0), (7, vo), (8, i64 (bestI (some (m, nm)))), (11, pt q.1 0), (12, pt q.2 0)]) (fun q H1 L1 => H = H1 ∧ (q.1, .cells (encOpV wv'[m]).toArray 38 (0, 0)) :: (q.2, .cells (encId nm).toArray 34 (0, 0)) :: (Co ++ ((b, .cells [w0, w1, w2, w3].toArray 48 (0, 0)) :: (D0 ++ (D1 ++ (D2 ++ (D3 ++ L)))))) = L1) ?_ ?_
          ·skip
           refine gc_draw2 Tryd.mixed [(.mv, 0), (.mv, 1), (.mv, 2), (.mv, 3), (.mv, 4), (.mv, 5), (.mv, 6), (.mv, 7), (.mv, 8), (.mv, 9), (.mv, 10), (.mv, 11), (.mv, 12), (.mv, 13)] 14 15 [(.nm, 16), (.fin, 17)] (by decide +kernel) _ (List.Sublist.refl _) ?_ ?_
           ·skip
            show GR _ _ _ _ _ _ [(.mv, 0), (.mv, 1), (.mv, 2), (.mv, 3), (.mv, 4), (.mv, 5), (.mv, 6), (.mv, 7), (.mv, 8), (.mv, 9), (.mv, 10), (.mv, 11), (.mv, 12), (.mv, 13), (.nm, 14), (.nm, 15), (.nm, 16), (.fin, 17)] _ _
            refine gm rfl rfl rfl rfl ?_
            refine gr_rd rfl rfl rfl (rd_nilCheck rfl) ?_
            refine gr_rd rfl rfl rfl (rd_fieldAddr Tryd.fa48_1 rfl) ?_
            refine gr_rd rfl rfl rfl (rd_load1 Tryd.to25 rfl hV.cells (v := .slice Aw wv'.length cw) (by rw [← hwe]; rfl)) ?_
            refine gm rfl rfl rfl rfl ?_
            refine gr_rd rfl rfl rfl (rd_indexS Tryd.underlying25 Tryd.sizeOf38 rfl rfl hAw (by omega) (by omega)) ?_
            refine gr_rd rfl rfl rfl (rd_loadA Tryd.ta38 rfl hcw' (show Seg lw (ow + (bestI (some (m, nm))).toNat * 38) (encOpV wv'[m]) from by rw [hbi, Int.toNat_natCast]; exact hsw) (encOpV_length _)) ?_
            refine gm rfl rfl rfl rfl ?_
            refine gr_rd rfl rfl rfl (rd_nilCheck rfl) ?_
            refine gr_rd rfl rfl rfl (rd_fieldAddr Tryd.fa48_3 rfl) ?_
            refine gr_rd rfl rfl rfl (rd_load1 Tryd.to29 rfl hV.cells (v := .slice An ns.length cn) (by rw [← hne]; rfl)) ?_
            refine gm rfl rfl rfl rfl ?_
            refine gr_rd rfl rfl rfl (rd_indexS Tryd.underlying29 Tryd.sizeOf34 rfl rfl hAn (by omega) (by omega)) ?_
            refine gr_rd rfl rfl rfl (rd_loadA Tryd.ta34 rfl hcn' hsm (encId_length _)) ?_
            refine gr_nx rfl rfl rfl (nx_alloc Tryd.zeroValue38 rfl) ?_; rintro _ _ _ _ ⟨b11, rfl, rfl, rfl⟩; refine ⟨kp, ?_⟩
            refine gr_nx rfl rfl rfl (nx_alloc Tryd.zeroValue34 rfl) ?_; rintro _ _ _ _ ⟨b12, rfl, rfl, rfl⟩; refine ⟨kp, ?_⟩
            refine gr_nx0 rfl rfl (nx_store (vs := encOpV wv'[m]) Tryd.sizeOf38 rfl rfl rfl (encOpV_length _) upd (by simp) (encOp_ones _ (SlT.one (hpw _ (List.getElem_mem hm1))))) ?_; rintro _ _ _ _ ⟨rfl, rfl, rfl⟩; refine ⟨kp, ?_⟩
            rw [wr_all (by simp)]
            refine gr_fin0 rfl rfl (nx_store (vs := encId nm) Tryd.sizeOf34 rfl rfl rfl (encId_length _) upd (by simp) (encId_ones _)) ?_; rintro _ _ _ _ ⟨rfl, rfl, rfl⟩
            rw [wr_all (by simp)]
            refine gr_nil ?_
            first | exact gk_cut (b11, b12) ⟨rfl, rfl⟩ sbs | exact gk_perm (List.Perm.swap _ _ _) (gk_cut (b11, b12) ⟨rfl, rfl⟩ sbs)
           ·skip
            show GR _ _ _ _ _ _ [(.mv, 0), (.mv, 1), (.mv, 2), (.mv, 3), (.mv, 4), (.mv, 5), (.mv, 6), (.mv, 7), (.mv, 8), (.mv, 9), (.mv, 10), (.mv, 11), (.mv, 12), (.mv, 13), (.nm, 15), (.nm, 14), (.nm, 16), (.fin, 17)] _ _
            refine gm rfl rfl rfl rfl ?_
            refine gr_rd rfl rfl rfl (rd_nilCheck rfl) ?_
            refine gr_rd rfl rfl rfl (rd_fieldAddr Tryd.fa48_1 rfl) ?_
            refine gr_rd rfl rfl rfl (rd_load1 Tryd.to25 rfl hV.cells (v := .slice Aw wv'.length cw) (by rw [← hwe]; rfl)) ?_
            refine gm rfl rfl rfl rfl ?_
            refine gr_rd rfl rfl rfl (rd_indexS Tryd.underlying25 Tryd.sizeOf38 rfl rfl hAw (by omega) (by omega)) ?_
            refine gr_rd rfl rfl rfl (rd_loadA Tryd.ta38 rfl hcw' (show Seg lw (ow + (bestI (some (m, nm))).toNat * 38) (encOpV wv'[m]) from by rw [hbi, Int.toNat_natCast]; exact hsw) (encOpV_length _)) ?_
            refine gm rfl rfl rfl rfl ?_
            refine gr_rd rfl rfl rfl (rd_nilCheck rfl) ?_
            refine gr_rd rfl rfl rfl (rd_fieldAddr Tryd.fa48_3 rfl) ?_
            refine gr_rd rfl rfl rfl (rd_load1 Tryd.to29 rfl hV.cells (v := .slice An ns.length cn) (by rw [← hne]; rfl)) ?_
            refine gm rfl rfl rfl rfl ?_
            refine gr_rd rfl rfl rfl (rd_indexS Tryd.underlying29 Tryd.sizeOf34 rfl rfl hAn (by omega) (by omega)) ?_
            refine gr_rd rfl rfl rfl (rd_loadA Tryd.ta34 rfl hcn' hsm (encId_length _)) ?_
            refine gr_nx rfl rfl rfl (nx_alloc Tryd.zeroValue34 rfl) ?_; rintro _ _ _ _ ⟨b12, rfl, rfl, rfl⟩; refine ⟨kp, ?_⟩
            refine gr_nx rfl rfl rfl (nx_alloc Tryd.zeroValue38 rfl) ?_; rintro _ _ _ _ ⟨b11, rfl, rfl, rfl⟩; refine ⟨kp, ?_⟩
            refine gr_nx0 rfl rfl (nx_store (vs := encOpV wv'[m]) Tryd.sizeOf38 rfl rfl rfl (encOpV_length _) upd (by simp) (encOp_ones _ (SlT.one (hpw _ (List.getElem_mem hm1))))) ?_; rintro _ _ _ _ ⟨rfl, rfl, rfl⟩; refine ⟨kp, ?_⟩
            rw [wr_all (by simp)]
            refine gr_fin0 rfl rfl (nx_store (vs := encId nm) Tryd.sizeOf34 rfl rfl rfl (encId_length _) upd (by simp) (encId_ones _)) ?_; rintro _ _ _ _ ⟨rfl, rfl, rfl⟩
            rw [wr_all (by simp)]
            refine gr_nil ?_
            first | exact gk_cut (b11, b12) ⟨rfl, rfl⟩ sbs | exact gk_perm (List.Perm.swap _ _ _) (gk_cut (b11, b12) ⟨rfl, rfl⟩ sbs)
          ·rintro ⟨b11, b12⟩ H1 L1 ⟨rfl, rfl⟩
           show GC _ _ _ _ [(0, pt b 0), (7, vo), (8, i64 (bestI (some (m, nm)))), (11, pt b11 0), (12, pt b12 0)] H ((b11, .cells (encOpV wv'[m]).toArray 38 (0, 0)) :: (b12, .cells (encId nm).toArray 34 (0, 0)) :: (Co ++ ((b, .cells [w0, w1, w2, w3].toArray 48 (0, 0)) :: (D0 ++ (D1 ++ (D2 ++ (D3 ++ L)))))))
           obtain ⟨ow', hwo, hwhole⟩ := best_at hbo2.symm
           have how : (wv'[m]).1 = ow' := by
             have h1 := congrArg (fun l => l[m]?) hS'.waitE
             simp only [List.getElem?_map, hwo, List.getElem?_eq_getElem hm1] at h1
             simpa using h1
           have hall2 : ∀ n ∈ (wv'[m]).1.preds, has s'.ops n = true := by rw [how]; simpa [whole] using hwhole
           have hones : ∀ x ∈ wv', oneCells (encOpV x) := fun x hx => encOp_ones _ (SlT.one (hpw _ hx))
           have hOw : Ow 38 38 D1 (.slice Aw wv'.length cw) wv'.length (wv'.flatMap encOpV) := by rw [← hwe]; exact hS'.wait
           have hOn : Ow 34 32 D3 (.slice An ns.length cn) ns.length (ns.flatMap encId) := by rw [← hne, ← hns, List.length_map]; exact hS'.waits
           have hml : m < ns.length := by omega
           have hdp := hpw _ (List.getElem_mem hm1)
           refine gc_seq ?_
           refine gc_draw Tryd.mixed [(.mv, 0), (.mv, 2), (.mv, 3), (.mv, 4), (.mv, 5), (.mv, 6), (.mv, 7), (.mv, 9), (.mv, 10), (.mv, 11), (.mv, 12), (.mv, 13), (.mv, 14), (.mv, 15), (.nm, 1), (.nm, 8), (.nm, 16), (.mv, 17), (.mv, 18), (.fin, 19)] (by decide +kernel) [(b, .cells [w0, w1, w2, w3].toArray 48 (0, 0))] ((List.Sublist.cons _ (List.Sublist.cons _ ((List.Sublist.cons_cons _ (List.nil_sublist _)).trans (List.sublist_append_right _ _))))) ?_
           refine gm rfl rfl rfl rfl ?_
           refine gm rfl rfl rfl rfl ?_
           refine gr_rd rfl rfl rfl (rd_nilCheck rfl) ?_
           refine gr_rd rfl rfl rfl (rd_fieldAddr Tryd.fa48_1 rfl) ?_
           refine gr_rd rfl rfl rfl (rd_load1 Tryd.to25 rfl (Cells.own (l := [w0, w1, w2, w3]) (T := 48) (z := (0, 0)) (by simp [baseL])) (v := .slice Aw wv'.length cw) (by rw [← hwe]; rfl)) ?_
           refine gm rfl rfl rfl rfl ?_
           refine gr_rd rfl rfl rfl (rd_sliceHiA Tryd.underlying25 Tryd.sizeOf38 rfl rfl (h := m) hbi (by omega)) ?_
           refine gm rfl rfl rfl rfl ?_
           refine gr_rd rfl rfl rfl (rd_nilCheck rfl) ?_
           refine gr_rd rfl rfl rfl (rd_fieldAddr Tryd.fa48_1 rfl) ?_
           refine gr_rd rfl rfl rfl (rd_load1 Tryd.to25 rfl (Cells.own (l := [w0, w1, w2, w3]) (T := 48) (z := (0, 0)) (by simp [baseL])) (v := .slice Aw wv'.length cw) (by rw [← hwe]; rfl)) ?_
           refine gm rfl rfl rfl rfl ?_
           (first | refine gr_rd rfl rfl rfl (rd_add rfl rfl (IntWalk.i64_in _ (by omega))) ?_ | refine gr_rd rfl rfl rfl (rd_add rfl rfl rfl) ?_)
           refine gr_rd rfl rfl rfl (rd_sliceLoA Tryd.underlying25 Tryd.sizeOf38 rfl rfl (l := m + 1) (by omega) (by omega) (by omega)) ?_
           refine gr_nx rfl rfl rfl (nx_buildSlice (vs := []) Tryd.underlying25 Tryd.sizeOf38 Tryd.zeroValue38 rfl rfl rfl rfl (fun v hv => by cases hv) rfl rfl rfl) ?_; rintro _ _ _ _ ⟨b134, rfl, rfl, rfl⟩; refine ⟨kp, ?_⟩
           refine gr_nx rfl rfl rfl (nx_append (m := m) Tryd.app25_25 rfl rfl (Ow.new (b := b134) (e := 38) (k := 38) (n := 0) (cs := []) rfl) pik (SlT.srcM encOpV_length (fun x hx => hones x (List.mem_of_mem_take hx)) (SlT.hi (Ow.slT (xs := wv') encOpV_length hOw rfl (by omega) (by intro x hx; simp [hx])) (h' := m) (by omega) (by omega) (fun ha => by rw [hAw] at ha; cases ha)) (by simp; omega)) (by omega) (by omega)) ?_; rintro v141 H' L' hle ⟨C1, hO1, _, rfl, rfl⟩; refine ⟨kp, ?_⟩
           refine gr_nx rfl rfl rfl (nx_append (m := wv'.length - (m + 1)) Tryd.app25_25 rfl rfl hO1 pik (SlT.srcM encOpV_length (fun x hx => hones x (List.mem_of_mem_drop hx)) (SlT.lo (Ow.slT (xs := wv') encOpV_length hOw rfl (by omega) (by intro x hx; simp [hx])) (l := m + 1) (by omega)) (by simp)) (by omega) (by omega)) ?_; rintro v149 H' L' hle ⟨E1, hE1, _, rfl, rfl⟩; refine ⟨kp, ?_⟩
           refine gr_drop (L' := E1 ++ ((b11, .cells (encOpV wv'[m]).toArray 38 (0, 0)) :: (b12, .cells (encId nm).toArray 34 (0, 0)) :: (Co ++ ((b, .cells [w0, w1, w2, w3].toArray 48 (0, 0)) :: (D0 ++ (D2 ++ (D3 ++ L))))))) sbl ?_
           refine gr_rd rfl rfl rfl (rd_nilCheck rfl) ?_
           refine gr_rd rfl rfl rfl (rd_fieldAddr Tryd.fa48_1 rfl) ?_
           refine gr_fin0 rfl rfl (nx_store (vs := [_]) Tryd.sizeOf25 rfl rfl (cells1 (Ow.one hE1)) rfl upd (by simp) (oneCells_cons (Ow.one hE1) oneCells_nil)) ?_; rintro _ _ _ _ ⟨rfl, rfl, rfl⟩
           refine gr_nil (gk_then ?_)
           refine gc_seq ?_
           refine gc_draw Tryd.mixed [(.mv, 0), (.mv, 2), (.mv, 3), (.mv, 4), (.mv, 5), (.mv, 6), (.mv, 7), (.mv, 9), (.mv, 10), (.mv, 11), (.mv, 12), (.mv, 13), (.mv, 14), (.mv, 15), (.nm, 1), (.nm, 8), (.nm, 16), (.mv, 17), (.mv, 18), (.fin, 19)] (by decide +kernel) [(b, .cells [w0, v149, w2, w3].toArray 48 (0, 0))] ((List.Sublist.trans (List.Sublist.cons _ (List.Sublist.cons _ ((List.Sublist.cons_cons _ (List.nil_sublist _)).trans (List.sublist_append_right _ _)))) (List.sublist_append_right _ _))) ?_
           refine gm rfl rfl rfl rfl ?_
           refine gm rfl rfl rfl rfl ?_
           refine gr_rd rfl rfl rfl (rd_nilCheck rfl) ?_
           refine gr_rd rfl rfl rfl (rd_fieldAddr Tryd.fa48_3 rfl) ?_
           refine gr_rd rfl rfl rfl (rd_load1 Tryd.to29 rfl (Cells.own (l := [w0, v149, w2, w3]) (T := 48) (z := (0, 0)) (by simp [baseL])) (v := .slice An ns.length cn) (by rw [← hne]; rfl)) ?_
           refine gm rfl rfl rfl rfl ?_
           refine gr_rd rfl rfl rfl (rd_sliceHiA Tryd.underlying29 Tryd.sizeOf34 rfl rfl (h := m) hbi (by omega)) ?_
           refine gm rfl rfl rfl rfl ?_
           refine gr_rd rfl rfl rfl (rd_nilCheck rfl) ?_
           refine gr_rd rfl rfl rfl (rd_fieldAddr Tryd.fa48_3 rfl) ?_
           refine gr_rd rfl rfl rfl (rd_load1 Tryd.to29 rfl (Cells.own (l := [w0, v149, w2, w3]) (T := 48) (z := (0, 0)) (by simp [baseL])) (v := .slice An ns.length cn) (by rw [← hne]; rfl)) ?_
           refine gm rfl rfl rfl rfl ?_
           (first | refine gr_rd rfl rfl rfl (rd_add rfl rfl (IntWalk.i64_in _ (by omega))) ?_ | refine gr_rd rfl rfl rfl (rd_add rfl rfl rfl) ?_)
           refine gr_rd rfl rfl rfl (rd_sliceLoA Tryd.underlying29 Tryd.sizeOf34 rfl rfl (l := m + 1) (by omega) (by omega) (by omega)) ?_
           refine gr_nx rfl rfl rfl (nx_buildSlice (vs := []) Tryd.underlying29 Tryd.sizeOf34 Tryd.zeroValue34 rfl rfl rfl rfl (fun v hv => by cases hv) rfl rfl rfl) ?_; rintro _ _ _ _ ⟨b153, rfl, rfl, rfl⟩; refine ⟨kp, ?_⟩
           refine gr_nx rfl rfl rfl (nx_append (m := m) Tryd.app29_29 rfl rfl (Ow.new (b := b153) (e := 34) (k := 32) (n := 0) (cs := []) rfl) pik (SlT.srcN encId_length encId_ones (SlT.hi (Ow.slT (xs := ns) encId_length hOn rfl (by omega) (by intro x hx; simp [hx])) (h' := m) (by omega) (by omega) (fun ha => by rw [hAn] at ha; cases ha)) (by simp; omega)) (by omega) (by omega)) ?_; rintro v160 H' L' hle ⟨C3, hO3, _, rfl, rfl⟩; refine ⟨kp, ?_⟩
           refine gr_nx rfl rfl rfl (nx_append (m := ns.length - (m + 1)) Tryd.app29_29 rfl rfl hO3 pik (SlT.srcN encId_length encId_ones (SlT.lo (Ow.slT (xs := ns) encId_length hOn rfl (by omega) (by intro x hx; simp [hx])) (l := m + 1) (by omega)) (by simp)) (by omega) (by omega)) ?_; rintro v168 H' L' hle ⟨E3, hE3, _, rfl, rfl⟩; refine ⟨kp, ?_⟩
           refine gr_drop (L' := E3 ++ (E1 ++ ((b11, .cells (encOpV wv'[m]).toArray 38 (0, 0)) :: (b12, .cells (encId nm).toArray 34 (0, 0)) :: (Co ++ ((b, .cells [w0, v149, w2, w3].toArray 48 (0, 0)) :: (D0 ++ (D2 ++ L))))))) sbl ?_
           refine gr_rd rfl rfl rfl (rd_nilCheck rfl) ?_
           refine gr_rd rfl rfl rfl (rd_fieldAddr Tryd.fa48_3 rfl) ?_
           refine gr_fin0 rfl rfl (nx_store (vs := [_]) Tryd.sizeOf29 rfl rfl (cells1 (Ow.one hE3)) rfl upd (by simp) (oneCells_cons (Ow.one hE3) oneCells_nil)) ?_; rintro _ _ _ _ ⟨rfl, rfl, rfl⟩
           refine gr_nil (gk_then ?_)
           refine gc_seq ?_
           refine gc_draw Tryd.mixed [(.mv, 0), (.mv, 1), (.mv, 2), (.mv, 3), (.nm, 4), (.mv, 5)] (by decide +kernel) _ (List.Sublist.refl _) ?_
           obtain ⟨s2, hs2⟩ : ∃ s2 : DSet, (⟨s'.ops, s'.wait.eraseIdx m⟩ : DSet) = s2 := ⟨_, rfl⟩
           have h2o : s2.ops = s'.ops := by rw [← hs2]
           have h2w : s2.wait = s'.wait.eraseIdx m := by rw [← hs2]
           have h2ol : s2.ops.length = s'.ops.length := by rw [h2o]
           have hmw : m < s'.wait.length := by omega
           have h2l : s2.wait.length + 1 = s'.wait.length := by rw [h2w, List.length_eraseIdx_of_lt hmw]; omega
           obtain ⟨k', rfl⟩ : ∃ k', k = k' + 1 := ⟨k - 1, by omega⟩
           have hstep2 := settle_step (k := k') (out := out) hbo2.symm hwo
           rw [hs2, ← h2w, ← h2o, ← how] at hstep2
           have hS2 : RSet H s2 w0 v149 w2 v168 ov' (wv'.eraseIdx m) D0 E1 D2 E3 := by
             rw [← hs2]
             refine ⟨hS'.ops, hS'.opsE, ?_, ?_, hS'.names, ?_, hS'.preds, fun p hp => hS'.predsW p (List.mem_of_mem_eraseIdx hp)⟩
             · rw [List.length_eraseIdx_of_lt hm1, ← eraseIdx_cut, List.flatMap_append]
               have e1 : 0 + m + (wv'.length - (m + 1)) = wv'.length - 1 := by omega
               rw [e1] at hE1
               simpa using hE1
             · simp only [← eraseIdx_cut, List.map_append, List.map_take, List.map_drop, hS'.waitE]
             · have e0 : (⟨s'.ops, s'.wait.eraseIdx m⟩ : DSet).wait.length = s'.wait.length - 1 := List.length_eraseIdx_of_lt hmw
               rw [e0]
               simp only [← eraseIdx_cut, List.map_append, List.map_take, List.map_drop, hns, List.flatMap_append]
               have e1 : 0 + m + (ns.length - (m + 1)) = s'.wait.length - 1 := by omega
               rw [e1] at hE3
               simpa using hE3
           have hall3 : ∀ n ∈ (wv'[m]).1.preds, has s2.ops n = true := by rw [h2o]; exact hall2
           refine gr_drop (L' := E3 ++ (E1 ++ ((b11, .cells (encOpV wv'[m]).toArray 38 (0, 0)) :: (b12, .cells (encId nm).toArray 34 (0, 0)) :: (Co ++ ((b, .cells [w0, v149, w2, v168].toArray 48 (0, 0)) :: (D0 ++ (D2 ++ L))))))) (List.Sublist.refl _) ?_
           refine gr_rd rfl rfl rfl (rd_fieldAddr Tryd.fa38_2 rfl) ?_
           refine gr_rd rfl rfl rfl (rd_load1 Tryd.to3 rfl (Cells.own (l := encOpV wv'[m]) (T := 38) (z := (0, 0)) (by simp [baseL])) (v := i64 (wv'[m]).1.depth) (encOp_36 _ _)) ?_
           refine gm rfl rfl rfl rfl ?_
           refine gr_rd rfl rfl rfl (rd_loadA Tryd.ta38 rfl (Cells.own (l := encOpV wv'[m]) (T := 38) (z := (0, 0)) (by simp [baseL])) (Seg.all _) (encOpV_length _)) ?_
           refine gr_nx rfl rfl rfl (nx_call Tryd.en56 rfl (rdepth_cc _ _ (hS2.view (L := _) (T := 48) (z := (0, 0)) (by omega) (by simp [baseL]) (by intro x hx; simp [baseL, hx]) (by intro x hx; simp [baseL, hx]) (by intro x hx; simp [baseL, hx]) (by intro x hx; simp [baseL, hx])) (wv'[m]).1 (wv'[m]).2 hdp.any hall3)) ?_; rintro v175 H' L' hle ⟨rfl, rfl, rfl⟩; refine ⟨kp, ?_⟩
           refine gr_rd rfl rfl rfl (rd_eql rfl rfl) ?_
           refine gr_nil (gk_then ?_)
           refine gc_cond rfl (fun hc7 => ?_) (fun hc7 => ?_)
           ·have hd7 : (wv'[m]).1.depth = depthOf s2 (wv'[m]).1.preds := by simpa using hc7
            refine gc_seq ?_
            refine gc_draw Tryd.mixed [(.mv, 0), (.mv, 1), (.mv, 2), (.mv, 3), (.mv, 4), (.mv, 5), (.nm, 6), (.nm, 7), (.mv, 8), (.mv, 9), (.fin, 10)] (by decide +kernel) [(b11, .cells (encOpV wv'[m]).toArray 38 (0, 0)), (b, .cells [w0, v149, w2, v168].toArray 48 (0, 0))] (sba) ?_
            refine gm rfl rfl rfl rfl ?_
            refine gm rfl rfl rfl rfl ?_
            refine gr_rd rfl rfl rfl (rd_nilCheck rfl) ?_
            refine gr_rd rfl rfl rfl (rd_fieldAddr Tryd.fa48_0 rfl) ?_
            refine gr_rd rfl rfl rfl (rd_load1 Tryd.to25 rfl (Cells.own (l := [w0, v149, w2, v168]) (T := 48) (z := (0, 0)) (by simp [baseL])) rfl) ?_
            refine gr_rd rfl rfl rfl (rd_loadA Tryd.ta38 rfl (Cells.own (l := encOpV wv'[m]) (T := 38) (z := (0, 0)) (by simp [baseL])) (Seg.all _) (encOpV_length _)) ?_
            refine gr_nx rfl rfl rfl (nx_sliceA1 Tryd.underlying25 Tryd.sizeOf38 Tryd.zeroValue38 rfl rfl rfl lnk rfl) ?_; rintro _ _ _ _ ⟨b183, rfl, rfl, rfl⟩; refine ⟨kp, ?_⟩
            refine gr_nx rfl rfl rfl (nx_append (m := 1) Tryd.app25_25 rfl rfl hS2.ops pik (src_slice (b := b183) (o := 0) (l := encOpV wv'[m]) (m := 1) (by simp) (hones _ (List.getElem_mem hm1)) (fun h => by cases h) (fun _ _ => ⟨rfl, Cells.own List.mem_cons_self, Seg.all _⟩)) (by omega) (by omega)) ?_; rintro v184 H' L' hle ⟨F0, hF0, _, rfl, rfl⟩; refine ⟨kp, ?_⟩
            refine gr_drop (L' := F0 ++ (E3 ++ (E1 ++ ((b11, .cells (encOpV wv'[m]).toArray 38 (0, 0)) :: (b12, .cells (encId nm).toArray 34 (0, 0)) :: (Co ++ ((b, .cells [w0, v149, w2, v168].toArray 48 (0, 0)) :: (D2 ++ L))))))) sbl ?_
            refine gr_rd rfl rfl rfl (rd_nilCheck rfl) ?_
            refine gr_rd rfl rfl rfl (rd_fieldAddr Tryd.fa48_0 rfl) ?_
            refine gr_fin0 rfl rfl (nx_store (vs := [_]) Tryd.sizeOf25 rfl rfl (cells1 (Ow.one hF0)) rfl upd (by simp) (oneCells_cons (Ow.one hF0) oneCells_nil)) ?_; rintro _ _ _ _ ⟨rfl, rfl, rfl⟩
            refine gr_nil (gk_then ?_)
            refine gc_seq ?_
            refine gc_draw Tryd.mixed [(.mv, 0), (.mv, 1), (.mv, 2), (.mv, 3), (.mv, 4), (.mv, 5), (.nm, 6), (.nm, 7), (.mv, 8), (.mv, 9), (.fin, 10)] (by decide +kernel) [(b12, .cells (encId nm).toArray 34 (0, 0)), (b, .cells [v184, v149, w2, v168].toArray 48 (0, 0))] (sba) ?_
            refine gm rfl rfl rfl rfl ?_
            refine gm rfl rfl rfl rfl ?_
            refine gr_rd rfl rfl rfl (rd_nilCheck rfl) ?_
            refine gr_rd rfl rfl rfl (rd_fieldAddr Tryd.fa48_2 rfl) ?_
            refine gr_rd rfl rfl rfl (rd_load1 Tryd.to29 rfl (Cells.own (l := [v184, v149, w2, v168]) (T := 48) (z := (0, 0)) (by simp [baseL])) rfl) ?_
            refine gr_rd rfl rfl rfl (rd_loadA Tryd.ta34 rfl (Cells.own (l := encId nm) (T := 34) (z := (0, 0)) (by simp [baseL])) (Seg.all _) (encId_length _)) ?_
            refine gr_nx rfl rfl rfl (nx_sliceA1 Tryd.underlying29 Tryd.sizeOf34 Tryd.zeroValue34 rfl rfl rfl lnk rfl) ?_; rintro _ _ _ _ ⟨b193, rfl, rfl, rfl⟩; refine ⟨kp, ?_⟩
            refine gr_nx rfl rfl rfl (nx_append (m := 1) Tryd.app29_29 rfl rfl hS2.names pik (src_slice (b := b193) (o := 0) (l := encId nm) (m := 1) (by simp) (encId_ones _) (fun h => by cases h) (fun _ _ => ⟨rfl, Cells.own List.mem_cons_self, Seg.all _⟩)) (by omega) (by omega)) ?_; rintro v194 H' L' hle ⟨F2, hF2, _, rfl, rfl⟩; refine ⟨kp, ?_⟩
            refine gr_drop (L' := F2 ++ (F0 ++ (E3 ++ (E1 ++ ((b11, .cells (encOpV wv'[m]).toArray 38 (0, 0)) :: (b12, .cells (encId nm).toArray 34 (0, 0)) :: (Co ++ ((b, .cells [v184, v149, w2, v168].toArray 48 (0, 0)) :: L))))))) sbl ?_
            refine gr_rd rfl rfl rfl (rd_nilCheck rfl) ?_
            refine gr_rd rfl rfl rfl (rd_fieldAddr Tryd.fa48_2 rfl) ?_
            refine gr_fin0 rfl rfl (nx_store (vs := [_]) Tryd.sizeOf29 rfl rfl (cells1 (Ow.one hF2)) rfl upd (by simp) (oneCells_cons (Ow.one hF2) oneCells_nil)) ?_; rintro _ _ _ _ ⟨rfl, rfl, rfl⟩
            refine gr_nil (gk_then ?_)
            refine gc_seqr [(.mv, 0), (.mv, 1), (.nm, 2), (.nm, 3), (.mv, 4)] rfl ?_
            refine gm rfl rfl rfl rfl ?_
            refine gr_rd rfl rfl rfl (rd_loadA Tryd.ta34 rfl (Cells.own (l := encId nm) (T := 34) (z := (0, 0)) (by simp [baseL])) (Seg.all _) (encId_length _)) ?_
            refine gr_nx rfl rfl rfl (nx_sliceA1 Tryd.underlying29 Tryd.sizeOf34 Tryd.zeroValue34 rfl rfl rfl lnk rfl) ?_; rintro _ _ _ _ ⟨b199, rfl, rfl, rfl⟩; refine ⟨trivial, ?_⟩
            refine gr_nx rfl rfl rfl (nx_append (m := 1) Tryd.app29_29 rfl rfl hO pik (src_slice (b := b199) (o := 0) (l := encId nm) (m := 1) (by simp) (encId_ones _) (fun h => by cases h) (fun _ _ => ⟨rfl, Cells.own List.mem_cons_self, Seg.all _⟩)) (by omega) (by omega)) ?_; rintro v200 H' L' hle ⟨Co2, hO2, _, rfl, rfl⟩; refine ⟨trivial, ?_⟩
            refine ga rfl rfl rfl rfl ?_
            refine gr_nil ?_
            refine gk_inBlock ?_
            refine gk_perm (L' := ([(b199, .cells (encId nm).toArray 34 (0, 0)), (b11, .cells (encOpV wv'[m]).toArray 38 (0, 0)), (b12, .cells (encId nm).toArray 34 (0, 0))]) ++ (Co2 ++ ((b, .cells [v184, v149, v194, v168].toArray 48 (0, 0)) :: (F0 ++ (E1 ++ (F2 ++ (E3 ++ L))))))) (by haveI : DecidableEq (Nat × Obj) := fun _ _ => Classical.propDecidable _; rw [List.perm_iff_count]; intro a; simp only [List.count_append, List.count_cons, List.count_nil]; ac_rfl) ?_
            refine gk_drop (L' := Co2 ++ ((b, .cells [v184, v149, v194, v168].toArray 48 (0, 0)) :: (F0 ++ (E1 ++ (F2 ++ (E3 ++ L)))))) (List.sublist_append_right _ _) ?_
            refine gk_round ⟨k', ⟨s2.ops ++ [(nm, (wv'[m]).1)], s2.wait⟩, out ++ [nm], v184, v149, v194, v168, ov' ++ [wv'[m]], wv'.eraseIdx m, F0, E1, F2, E3, Co2, v200⟩ ?_ ?_ sbs
            · show s2.wait.length < s'.wait.length
              omega
            · refine ⟨rfl, rfl, ?_, by simpa using hO2, ?_, ?_, ?_, ?_⟩
              · exact ⟨by simpa using hF0, by simp [hS2.opsE], hS2.wait, hS2.waitE, by simpa using hF2, hS2.waits, fun p hp' => (List.mem_append.1 hp').elim (hS2.preds p) (fun h => by rw [List.mem_singleton.1 h]; exact hdp), hS2.predsW⟩
              · show (s2.ops ++ [_]).length + s2.wait.length ≤ _
                rw [List.length_append, h2o]; simp only [List.length_cons, List.length_nil]; omega
              · show (out ++ [nm]).length + s2.wait.length ≤ _
                rw [List.length_append]; simp only [List.length_cons, List.length_nil]; omega
              · show s2.wait.length < k'
                omega
              · rw [← hset, hstep2, if_pos hd7]
           ·have hd7 : ¬ (wv'[m]).1.depth = depthOf s2 (wv'[m]).1.preds := by simpa using hc7
            refine gc_skip ?_
            refine gk_inBlock ?_
            refine gk_perm (L' := ([(b11, .cells (encOpV wv'[m]).toArray 38 (0, 0)), (b12, .cells (encId nm).toArray 34 (0, 0))]) ++ (Co ++ ((b, .cells [w0, v149, w2, v168].toArray 48 (0, 0)) :: (D0 ++ (E1 ++ (D2 ++ (E3 ++ L))))))) (by haveI : DecidableEq (Nat × Obj) := fun _ _ => Classical.propDecidable _; rw [List.perm_iff_count]; intro a; simp only [List.count_append, List.count_cons, List.count_nil]; ac_rfl) ?_
            refine gk_drop (L' := Co ++ ((b, .cells [w0, v149, w2, v168].toArray 48 (0, 0)) :: (D0 ++ (E1 ++ (D2 ++ (E3 ++ L)))))) (List.sublist_append_right _ _) ?_
            refine gk_round ⟨k', s2, out, w0, v149, w2, v168, ov', wv'.eraseIdx m, D0, E1, D2, E3, Co, vo⟩ ?_ ?_ sbs
            · show s2.wait.length < s'.wait.length
              omega
            · refine ⟨rfl, rfl, hS2, hO, ?_, ?_, ?_, ?_⟩
              · show s2.ops.length + s2.wait.length ≤ _
                rw [h2o]; omega
              · show out.length + s2.wait.length ≤ _
                omega
              · show s2.wait.length < k'
                omega
              · rw [← hset, hstep2, if_neg hd7]
end Go.Proofs.YtfhldfjknagidaaDoor

/-
  Composite values: operations and drafts put together out of their parts.
-/
set_option linter.unusedSimpArgs false
set_option linter.unusedVariables false
set_option linter.unnecessarySimpa false
set_option linter.all false
namespace Go.VK
open Go.Tr

theorem encOp_set_author (o : POp) (pv : Value) (a : Int) : wr (encOp o pv) 35 [i64 a] = encOp { o with author := a } pv := by
  have h1 : (encOp o pv).take 35 = encDraft o.draft := by
    rw [encOp, List.take_append, List.take_of_length_le (by simp)]; simp
  have h2 : (encOp o pv).drop (35 + [i64 a].length) = [i64 o.depth, pv] := by
    rw [encOp, List.drop_append, List.drop_eq_nil_of_le (by simp)]; simp
  rw [wr, h1, h2]
  simp [encOp]
theorem encOp_set_draft (o : POp) (pv : Value) (d : Draft) : wr (encOp o pv) 0 (encDraft d) = encOp { o with draft := d } pv := by
  have h2 : (encOp o pv).drop (0 + (encDraft d).length) = [i64 o.author, i64 o.depth, pv] := by
    rw [encOp, List.drop_append, List.drop_eq_nil_of_le (by simp)]; simp
  rw [wr, h2]
  simp [encOp]
theorem encOp_preds (o : POp) (pv : Value) (ps : List Nm) : encOp { o with preds := ps } pv = encOp o pv := rfl
abbrev opPl (x : Nat) : Option (Nat × Nat) := [(0, 35), (35, 1), (36, 1), (37, 1)][x]?
abbrev nilS : Value := .slice none 0 0
theorem one_cells {v : Value} (h : v.oneCell' = true) : v.cells = [v].toArray := by
  have := cells1 h
  rw [← this]
/-- Draft, author and names ahead. -/
theorem fill_op3 {d : Draft} {a : Int} {pv : Value} {ps : List Nm} (h : pv.oneCell' = true) :
    Instr.fill opPl (encOp zeroOp nilS).toArray [(0, ag (encDraft d)), (1, i64 a), (3, pv)] = some (encOp ⟨d, a, 0, ps⟩ pv).toArray := by
  rw [fill_wr (off := 0) (size := 35) (vl := encDraft d) rfl rfl (by simp) (by simp), encOp_set_draft,
    fill_wr (off := 35) (size := 1) (vl := [i64 a]) rfl rfl rfl (by simp), encOp_set_author,
    fill_wr (off := 37) (size := 1) (vl := [pv]) rfl (one_cells h) rfl (by simp), encOp_set_preds _ _ _ ps]
  rfl
theorem heads_has {s : DSet} : ∀ n ∈ heads s, has s.ops n = true := fun n hn => by
  rw [heads, mem_rising] at hn
  exact has_mem.2 (List.mem_filter.1 hn).1
theorem heads_le (s : DSet) : (heads s).length ≤ s.ops.length := by
  rw [heads, rising_length]
  exact Nat.le_trans (List.length_filter_le _ _) (by simp)
end Go.VK

/-
  Walks: the reference's set answers a draft.
-/
set_option linter.unusedSimpArgs false
set_option linter.unusedVariables false
set_option linter.unnecessarySimpa false
set_option linter.all false
namespace Go.Proofs.YtfhldfjknagidaaDoor
open Go.VK Go.Tr
set_option maxRecDepth 20000
attribute [local irreducible] Go.Tr.sha

set_option maxHeartbeats 1000000 in
theorem rnext_cc (H : Gh) (L : Chunks) {b : Nat} {s : DSet} {v0 v1 v2 v3 : Value} {ov wv : List (POp × Value)} (hV : RView H L b s v0 v1 v2 v3 ov wv) (hb : s.ops.length < 16777216) (author : Int) (d : Draft) :
    CC Tryd.prog 27 #[pt b 0, i64 author, ag (encDraft d)] H L (fun v H' L' => ∃ C pv, v = .tuple #[ag (encOp (next s author d).1 pv), i64 (next s author d).2] ∧ Ow 34 32 C pv (next s author d).1.preds.length ((next s author d).1.preds.flatMap encId) ∧ H = H' ∧ C ++ L = L') := by
 have hhl := heads_le s
 refine cc_of Tryd.func27 rfl (Nat.le_of_ble_eq_true rfl) ?_
 simp only [Tryd.ntmps27]
 refine gc_seq (gc_seqr [(.nm, 0), (.nm, 1), (.mv, 2)] rfl ?_)
 refine gr_nx rfl rfl rfl (nx_box rfl rfl) ?_; rintro _ _ _ _ ⟨b5, rfl, rfl, rfl⟩; refine ⟨trivial, ?_⟩
 refine gr_nx rfl rfl rfl (nx_alloc Tryd.zeroValue38 rfl) ?_; rintro _ _ _ _ ⟨b6, rfl, rfl, rfl⟩; refine ⟨trivial, ?_⟩
 refine ga rfl rfl rfl rfl ?_
 refine gr_nil (gk_then ?_)
 refine gc_seq ?_
 refine gc_seq (gc_seqr [(.mv, 0), (.nm, 1), (.mv, 2), (.mv, 3), (.mv, 4), (.mv, 5), (.mv, 6), (.mv, 7), (.mv, 8), (.mv, 9), (.mv, 10)] rfl ?_)
 refine gr_rd rfl rfl rfl (rd_loadA Tryd.ta36 rfl (by first | (apply Cells.own; (repeat (first | exact List.mem_cons_self | apply List.mem_cons_of_mem)); done) | (exact Cells.own (by simp))) sg lnk) ?_
 refine gr_nx rfl rfl rfl (nx_call Tryd.en62 rfl (rgoodDraft_cc _ _ d)) ?_; rintro v10 H' L' hle ⟨rfl, rfl, rfl⟩; refine ⟨trivial, ?_⟩
 refine gr_rd rfl rfl rfl (rd_not rfl) ?_
 refine gm rfl rfl rfl rfl ?_
 refine gr_split rfl (fun hg3 => ?_) (fun hg3 => ?_)
 ·skip
  refine gr_no rfl rfl rfl ?_
  refine gr_no rfl rfl rfl ?_
  (first | refine gpt rfl rfl rfl rfl rfl ?_ | refine gpf rfl rfl rfl rfl rfl ?_)
  refine gm rfl rfl rfl rfl ?_
  refine gr_no rfl rfl rfl ?_
  refine gr_no rfl rfl rfl ?_
  (first | refine gpt rfl rfl rfl rfl rfl ?_ | refine gpf rfl rfl rfl rfl rfl ?_)
  refine gr_nil (gk_then ?_)
  refine gc_yes rfl ?_
  have hn : next s author d = (zeroOp, 1) := by
    rw [next, if_pos]
    first | (simp [hg3]; done) | (simp [hg7]; done) | (simp only [Bool.or_eq_true]; exact .inr hc0)
  refine gc_seq (gc_seqr [(.mv, 0), (.nm, 1), (.mv, 2)] rfl ?_)
  refine gr_rd rfl rfl rfl (rd_build Tryd.bt38 (ps := []) (l := encOp zeroOp nilS) rfl rfl) ?_
  refine gr_nx0 rfl rfl (nx_store (vs := encOp zeroOp nilS) Tryd.sizeOf38 rfl rfl rfl (encOp_length _ _) upd (by simp) (encOp_ones _ rfl)) ?_; rintro _ _ _ _ ⟨rfl, rfl, rfl⟩; refine ⟨trivial, ?_⟩
  rw [wr_all (by simp)]
  refine ga rfl rfl rfl rfl ?_
  refine gr_nil (gk_then ?_)
  refine gc_ret ?_
  refine gk_ret_then ?_
  refine gk_result (L' := [] ++ L) (.inl rfl) _ (resC2 rfl rfl Tryd.ta38 (Cells.own (l := encOp zeroOp nilS) (T := 38) (z := (0, 0)) (by simp)) (Seg.all _) (encOp_length _ _) rfl) sbl (Gh.le_refl _) ?_
  exact ⟨[], nilS, by rw [hn], by rw [hn]; exact Ow.nil, rfl, rfl⟩
 ·skip
  refine gm rfl rfl rfl rfl ?_
  refine gr_rd rfl rfl rfl (rd_lss rfl rfl) ?_
  (first | refine gpt rfl rfl rfl rfl rfl ?_ | refine gpf rfl rfl rfl rfl rfl ?_)
  refine gm rfl rfl rfl rfl ?_
  refine gr_split rfl (fun hg7 => ?_) (fun hg7 => ?_)
  ·skip
   refine gr_no rfl rfl rfl ?_
   refine gr_no rfl rfl rfl ?_
   (first | refine gpt rfl rfl rfl rfl rfl ?_ | refine gpf rfl rfl rfl rfl rfl ?_)
   refine gr_nil (gk_then ?_)
   refine gc_yes rfl ?_
   have hn : next s author d = (zeroOp, 1) := by
     rw [next, if_pos]
     first | (simp [hg3]; done) | (simp [hg7]; done) | (simp only [Bool.or_eq_true]; exact .inr hc0)
   refine gc_seq (gc_seqr [(.mv, 0), (.nm, 1), (.mv, 2)] rfl ?_)
   refine gr_rd rfl rfl rfl (rd_build Tryd.bt38 (ps := []) (l := encOp zeroOp nilS) rfl rfl) ?_
   refine gr_nx0 rfl rfl (nx_store (vs := encOp zeroOp nilS) Tryd.sizeOf38 rfl rfl rfl (encOp_length _ _) upd (by simp) (encOp_ones _ rfl)) ?_; rintro _ _ _ _ ⟨rfl, rfl, rfl⟩; refine ⟨trivial, ?_⟩
   rw [wr_all (by simp)]
   refine ga rfl rfl rfl rfl ?_
   refine gr_nil (gk_then ?_)
   refine gc_ret ?_
   refine gk_ret_then ?_
   refine gk_result (L' := [] ++ L) (.inl rfl) _ (resC2 rfl rfl Tryd.ta38 (Cells.own (l := encOp zeroOp nilS) (T := 38) (z := (0, 0)) (by simp)) (Seg.all _) (encOp_length _ _) rfl) sbl (Gh.le_refl _) ?_
   exact ⟨[], nilS, by rw [hn], by rw [hn]; exact Ow.nil, rfl, rfl⟩
  ·skip
   refine gm rfl rfl rfl rfl ?_
   refine gr_rd rfl rfl rfl (rd_gtr rfl rfl) ?_
   (first | refine gpt rfl rfl rfl rfl rfl ?_ | refine gpf rfl rfl rfl rfl rfl ?_)
   refine gr_nil (gk_then ?_)
   refine gc_cond rfl (fun hc0 => ?_) (fun hc0 => ?_)
   ·have hn : next s author d = (zeroOp, 1) := by
      rw [next, if_pos]
      first | (simp [hg3]; done) | (simp [hg7]; done) | (simp only [Bool.or_eq_true]; exact .inr hc0)
    refine gc_seq (gc_seqr [(.mv, 0), (.nm, 1), (.mv, 2)] rfl ?_)
    refine gr_rd rfl rfl rfl (rd_build Tryd.bt38 (ps := []) (l := encOp zeroOp nilS) rfl rfl) ?_
    refine gr_nx0 rfl rfl (nx_store (vs := encOp zeroOp nilS) Tryd.sizeOf38 rfl rfl rfl (encOp_length _ _) upd (by simp) (encOp_ones _ rfl)) ?_; rintro _ _ _ _ ⟨rfl, rfl, rfl⟩; refine ⟨trivial, ?_⟩
    rw [wr_all (by simp)]
    refine ga rfl rfl rfl rfl ?_
    refine gr_nil (gk_then ?_)
    refine gc_ret ?_
    refine gk_ret_then ?_
    refine gk_result (L' := [] ++ L) (.inl rfl) _ (resC2 rfl rfl Tryd.ta38 (Cells.own (l := encOp zeroOp nilS) (T := 38) (z := (0, 0)) (by simp)) (Seg.all _) (encOp_length _ _) rfl) sbl (Gh.le_refl _) ?_
    exact ⟨[], nilS, by rw [hn], by rw [hn]; exact Ow.nil, rfl, rfl⟩
   ·have hok : ¬ ((!goodDraft d || author < 0 || 4 < author) = true) := by
      simp only [Bool.or_eq_true, not_or, Bool.not_eq_true]; exact ⟨⟨hg3, hg7⟩, hc0⟩
    refine gc_skip ?_
    refine gk_then ?_
    refine gc_cut (fun q : Nat × Chunks × Option Addr × Nat => [(0, pt b 0), (5, pt b5 0), (6, pt b6 0), (8, pt q.1 0)]) (fun q H1 L1 => H = H1 ∧ (q.1, .cells (encOp ⟨d, author, 0, heads s⟩ (.slice q.2.2.1 (heads s).length q.2.2.2)).toArray 38 (0, 0)) :: (q.2.1 ++ ((b6, .cells (encOp zeroOp nilS).toArray 38 (0, 0)) :: (b5, .cells (encDraft d).toArray 36 (0, 0)) :: L)) = L1 ∧ Ow 34 32 q.2.1 (.slice q.2.2.1 (heads s).length q.2.2.2) (heads s).length ((heads s).flatMap encId)) ?_ ?_
    ·skip
     refine gc_draw3 Tryd.mixed [(.mv, 0), (.mv, 1), (.mv, 2)] 3 5 [(.mv, 4), (.fin, 6)] [(.mv, 4), (.nm, 5), (.fin, 6)] [(.nm, 3), (.mv, 4), (.fin, 6)] (by decide +kernel) _ (List.Sublist.refl _) ?_ ?_
     ·skip
      show GR _ _ _ _ _ _ [(.mv, 0), (.mv, 1), (.mv, 2), (.nm, 3), (.mv, 4), (.nm, 5), (.fin, 6)] _ _
      refine gr_rd rfl rfl rfl (rd_loadA Tryd.ta36 rfl (by first | (apply Cells.own; (repeat (first | exact List.mem_cons_self | apply List.mem_cons_of_mem)); done) | (exact Cells.own (by simp))) sg lnk) ?_
      refine gm rfl rfl rfl rfl ?_
      refine gm rfl rfl rfl rfl ?_
      refine gr_nx rfl rfl rfl (nx_call Tryd.en59 rfl (rheads_cc _ _ (hV.mono (Gh.le_refl _) (fun x hx => by simp [hx])) hb)) ?_; rintro v24 H' L' hle ⟨C, hC, rfl, rfl⟩; refine ⟨kp, ?_⟩
      obtain ⟨ah, ch, rfl, hch⟩ := hC.slice
      refine gr_rd rfl rfl rfl (rd_build Tryd.bt38 (ps := [(0, ag (encDraft d)), (1, i64 author), (3, .slice ah (heads s).length ch)]) rfl (fill_op3 (ps := heads s) rfl)) ?_
      refine gr_nx rfl rfl rfl (nx_alloc Tryd.zeroValue38 rfl) ?_; rintro _ _ _ _ ⟨b8, rfl, rfl, rfl⟩; refine ⟨kp, ?_⟩
      refine gr_fin0 rfl rfl (nx_store (vs := encOp ⟨d, author, 0, heads s⟩ (.slice ah (heads s).length ch)) Tryd.sizeOf38 rfl rfl rfl (encOp_length _ _) upd (by simp) (encOp_ones _ rfl)) ?_; rintro _ _ _ _ ⟨rfl, rfl, rfl⟩
      rw [wr_all (by simp)]
      refine gr_nil ?_
      first | exact gk_cut (b8, C, ah, ch) ⟨rfl, rfl, hC⟩ sbs | exact gk_perm List.perm_middle (gk_cut (b8, C, ah, ch) ⟨rfl, rfl, hC⟩ sbs)
     ·skip
      show GR _ _ _ _ _ _ [(.mv, 0), (.mv, 1), (.mv, 2), (.nm, 5), (.nm, 3), (.mv, 4), (.fin, 6)] _ _
      refine gr_rd rfl rfl rfl (rd_loadA Tryd.ta36 rfl (by first | (apply Cells.own; (repeat (first | exact List.mem_cons_self | apply List.mem_cons_of_mem)); done) | (exact Cells.own (by simp))) sg lnk) ?_
      refine gm rfl rfl rfl rfl ?_
      refine gm rfl rfl rfl rfl ?_
      refine gr_nx rfl rfl rfl (nx_alloc Tryd.zeroValue38 rfl) ?_; rintro _ _ _ _ ⟨b8, rfl, rfl, rfl⟩; refine ⟨kp, ?_⟩
      refine gr_nx rfl rfl rfl (nx_call Tryd.en59 rfl (rheads_cc _ _ (hV.mono (Gh.le_refl _) (fun x hx => by simp [hx])) hb)) ?_; rintro v24 H' L' hle ⟨C, hC, rfl, rfl⟩; refine ⟨kp, ?_⟩
      obtain ⟨ah, ch, rfl, hch⟩ := hC.slice
      refine gr_rd rfl rfl rfl (rd_build Tryd.bt38 (ps := [(0, ag (encDraft d)), (1, i64 author), (3, .slice ah (heads s).length ch)]) rfl (fill_op3 (ps := heads s) rfl)) ?_
      refine gr_fin0 rfl rfl (nx_store (vs := encOp ⟨d, author, 0, heads s⟩ (.slice ah (heads s).length ch)) Tryd.sizeOf38 rfl rfl rfl (encOp_length _ _) upd (by simp) (encOp_ones _ rfl)) ?_; rintro _ _ _ _ ⟨rfl, rfl, rfl⟩
      rw [wr_all (by simp)]
      refine gr_nil ?_
      first | exact gk_cut (b8, C, ah, ch) ⟨rfl, rfl, hC⟩ sbs | exact gk_perm List.perm_middle (gk_cut (b8, C, ah, ch) ⟨rfl, rfl, hC⟩ sbs)
    ·rintro ⟨b8, C, ah, ch⟩ H1 L1 ⟨rfl, rfl, hC⟩
     show GC _ _ _ _ [(0, pt b 0), (5, pt b5 0), (6, pt b6 0), (8, pt b8 0)] H ((b8, .cells (encOp ⟨d, author, 0, heads s⟩ (.slice ah (heads s).length ch)).toArray 38 (0, 0)) :: (C ++ ((b6, .cells (encOp zeroOp nilS).toArray 38 (0, 0)) :: (b5, .cells (encDraft d).toArray 36 (0, 0)) :: L)))
     refine gc_seq ?_
     refine gc_seq (gc_seqr [(.mv, 0), (.mv, 1), (.mv, 2), (.mv, 3)] rfl ?_)
     refine gr_rd rfl rfl rfl (rd_fieldAddr Tryd.fa38_3 rfl) ?_
     refine gr_rd rfl rfl rfl (rd_load1 Tryd.to29 rfl (by first | (apply Cells.own; (repeat (first | exact List.mem_cons_self | apply List.mem_cons_of_mem)); done) | (exact Cells.own (by simp))) at1) ?_
     refine gr_rd rfl rfl rfl (rd_lenS Tryd.underlying29 rfl) ?_
     refine gr_rd rfl rfl rfl (rd_gtr rfl rfl) ?_
     refine gr_nil (gk_then ?_)
     refine gc_cond rfl (fun hc1 => ?_) (fun hc1 => ?_)
     ·have hn : next s author d = (zeroOp, 3) := by
        have h32 := of_decide_eq_true hc1
        rw [next, if_neg hok, if_pos (by omega)]
      refine gc_seq (gc_seqr [(.mv, 0), (.nm, 1), (.mv, 2)] rfl ?_)
      refine gr_rd rfl rfl rfl (rd_build Tryd.bt38 (ps := []) (l := encOp zeroOp nilS) rfl rfl) ?_
      refine gr_nx0 rfl rfl (nx_store (vs := encOp zeroOp nilS) Tryd.sizeOf38 rfl rfl rfl (encOp_length _ _) upd (by simp) (encOp_ones _ rfl)) ?_; rintro _ _ _ _ ⟨rfl, rfl, rfl⟩; refine ⟨trivial, ?_⟩
      rw [wr_all (by simp)]
      refine ga rfl rfl rfl rfl ?_
      refine gr_nil (gk_then ?_)
      refine gc_ret ?_
      refine gk_ret_then ?_
      refine gk_result (L' := [] ++ L) (.inl rfl) _ (resC2 rfl rfl Tryd.ta38 (Cells.own (l := encOp zeroOp nilS) (T := 38) (z := (0, 0)) (by simp)) (Seg.all _) (encOp_length _ _) rfl) sbl (Gh.le_refl _) ?_
      exact ⟨[], nilS, by rw [hn], by rw [hn]; exact Ow.nil, rfl, rfl⟩
     ·have hn : next s author d = (⟨d, author, depthOf s (heads s), heads s⟩, 0) := by
        have h32 := of_decide_eq_false hc1
        rw [next, if_neg hok, if_neg (by omega)]
      refine gc_skip ?_
      refine gk_then ?_
      refine gc_seq (gc_seqr [(.mv, 0), (.mv, 1), (.nm, 2), (.mv, 3), (.nm, 4)] rfl ?_)
      refine gm rfl rfl rfl rfl ?_
      refine gr_rd rfl rfl rfl (rd_loadA Tryd.ta38 rfl (by first | (apply Cells.own; (repeat (first | exact List.mem_cons_self | apply List.mem_cons_of_mem)); done) | (exact Cells.own (by simp))) sg lnk) ?_
      refine gr_nx rfl rfl rfl (nx_call Tryd.en56 rfl (rdepth_cc _ _ (hV.mono (Gh.le_refl _) (fun x hx => by simp [hx])) ⟨d, author, 0, heads s⟩ _ (Ow.slT encId_length hC rfl (by omega) (fun x hx => by simp [hx])) heads_has)) ?_; rintro v33 H' L' hle ⟨rfl, rfl, rfl⟩; refine ⟨trivial, ?_⟩
      refine gr_rd rfl rfl rfl (rd_fieldAddr Tryd.fa38_2 rfl) ?_
      refine gr_nx0 rfl rfl (nx_store (vs := [i64 (depthOf s (heads s))]) Tryd.sizeOf3 rfl rfl rfl (rfl) upd (by simp) (oneCells_of_all rfl)) ?_; rintro _ _ _ _ ⟨rfl, rfl, rfl⟩; refine ⟨trivial, ?_⟩
      rw [encOp_set_depth]
      refine gr_nil (gk_then ?_)
      refine gc_seq (gc_seqr [(.mv, 0), (.nm, 1), (.mv, 2)] rfl ?_)
      refine gr_rd rfl rfl rfl (rd_loadA Tryd.ta38 rfl (by first | (apply Cells.own; (repeat (first | exact List.mem_cons_self | apply List.mem_cons_of_mem)); done) | (exact Cells.own (by simp))) sg lnk) ?_
      refine gr_nx0 rfl rfl (nx_store (vs := encOp ⟨d, author, depthOf s (heads s), heads s⟩ (.slice ah (heads s).length ch)) Tryd.sizeOf38 rfl rfl rfl (encOp_length _ _) upd (by simp) (encOp_ones _ rfl)) ?_; rintro _ _ _ _ ⟨rfl, rfl, rfl⟩; refine ⟨trivial, ?_⟩
      rw [wr_all (by simp)]
      refine ga rfl rfl rfl rfl ?_
      refine gr_nil (gk_then ?_)
      refine gc_ret ?_
      refine gk_result (L' := C ++ L) (.inl rfl) _ (resC2 rfl rfl Tryd.ta38 (Cells.own (l := encOp ⟨d, author, depthOf s (heads s), heads s⟩ (.slice ah (heads s).length ch)) (T := 38) (z := (0, 0)) (by simp)) (Seg.all _) (encOp_length _ _) rfl) sbl (Gh.le_refl _) ?_
      exact ⟨C, .slice ah (heads s).length ch, by rw [hn], by rw [hn]; exact hC, rfl, rfl⟩
end Go.Proofs.YtfhldfjknagidaaDoor

/-
  Fields of values; maps keyed by names: deletions, entries that are counted up; operations and counts that lie in maps.
-/
set_option linter.unusedSimpArgs false
set_option linter.unusedVariables false
set_option linter.unnecessarySimpa false
set_option linter.all false
namespace Go.VK
open Go.Tr

section
variable {P : Program} {E : Env} {H : Gh} {L L' : Chunks} {t T K EL : TypeId} {x y z c : Operand} {v u : Value} {b bm o : Nat}

theorem rd_field1 {fs : Array Field} {f : Field} {l : List Value} {i : Nat} (hT : P.underlying T = some (.struct fs)) (hf : fs[i]? = some f) (h1 : TOne P f.type) (hx : ev E x = some (ag l)) (hv : l[f.offset]? = some v) :
    Rd P E H L (.field T x i) t v := fun a w n hA _ => by
  simp [execOp, hA.ev hx, Instr.field, run_underlying hT, hf, asAgg, part, h1.1, hv]

theorem run_setObj_map {w : World} {r : Nat} {o' : Obj} {es : Array MapEntry} {c : Nat} (hb : w.heap[r]? = some (.map es c)) : (setObj r o').run P w = .ok () { w with heap := w.heap.setIfInBounds r o' } := by simp [setObj, Sem.run, hb]

/-! ## Look-ups behind stores and deletions -/
theorem look_storeM (m : List (Nm × Value)) (n : Nm) (u : Value) (n' : Nm) : look (storeM m n u) n' = if n = n' then some u else look m n' := by
  unfold storeM
  by_cases ha : (m.any fun p => p.1 == n) = true
  · rw [if_pos ha]
    induction m with
    | nil => simp at ha
    | cons p r ih =>
      by_cases hp : p.1 = n
      · have e1 : (p.1 == n) = true := by simp [hp]
        by_cases hn : n = n'
        · subst hn
          rw [if_pos rfl]
          simp only [List.map_cons, e1, if_true, look, List.find?_cons, beq_self_eq_true, Option.map_some]
        · have e2 : (n == n') = false := by simp [hn]
          have e3 : (p.1 == n') = false := by rw [hp]; exact e2
          simp only [List.map_cons, e1, if_true, look, List.find?_cons, e2, e3, if_neg hn]
          by_cases hr : (r.any fun p => p.1 == n) = true
          · have := ih hr
            rw [if_neg hn] at this
            exact this
          · have : (r.map fun p => if p.1 == n then (n, u) else p) = r := by
              have h0 : ∀ q ∈ r, (q.1 == n) = false := by
                intro q hq
                cases hh : q.1 == n with
                | false => rfl
                | true => exact absurd (List.any_eq_true.2 ⟨q, hq, hh⟩) hr
              conv => rhs; rw [← List.map_id r]
              apply List.map_congr_left
              intro q hq; simp [h0 q hq]
            rw [this]
      · have e1 : (p.1 == n) = false := by simp [hp]
        have hr : (r.any fun p => p.1 == n) = true := by simpa [e1] using ha
        have := ih hr
        simp only [List.map_cons, e1, Bool.false_eq_true, if_false, look, List.find?_cons] at this ⊢
        cases hq : p.1 == n' with
        | true =>
          have hne : ¬ n = n' := fun e => hp (by rw [e]; simpa using hq)
          simp [hne]
        | false => simpa using this
  · rw [if_neg ha]
    have h0 : ∀ q ∈ m, (q.1 == n) = false := by
      intro q hq
      cases hh : q.1 == n with
      | false => rfl
      | true => exact absurd (List.any_eq_true.2 ⟨q, hq, hh⟩) ha
    simp only [look, List.find?_append]
    by_cases hn : n = n'
    · subst hn
      have : m.find? (fun p => p.1 == n) = none := by
        rw [List.find?_eq_none]; intro q hq; simp [h0 q hq]
      simp [this]
    · have e2 : (n == n') = false := by simp [hn]
      cases hf : m.find? (fun p => p.1 == n') <;> simp [hn, e2, List.find?_cons]

theorem storeM_new {m : List (Nm × Value)} {n : Nm} {u : Value} (h : look m n = none) : storeM m n u = m ++ [(n, u)] := by
  unfold storeM
  rw [if_neg]
  intro ha
  obtain ⟨p, hp, he⟩ := List.any_eq_true.1 ha
  simp only [look, Option.map_eq_none_iff, List.find?_eq_none] at h
  exact h p hp he
theorem dropM_none {m : List (Nm × Value)} {n : Nm} (h : look m n = none) : dropM m n = m := by
  unfold dropM
  rw [List.filter_eq_self]
  intro p hp
  simp only [look, Option.map_eq_none_iff, List.find?_eq_none] at h
  have := h p hp
  simpa using this

/-! ## Deletions -/
theorem delete_run {e : TypeId} (hT : TMap P T K EL e) {w : World} {bm : Nat} {ob : Obj} {m : List (Nm × Value)} (hb : w.heap[bm]? = some ob) (hm : MapO ob m) (n : Nm) (K' ty : TypeId) :
    ∃ ob', (Builtin.delete_ #[T, K'] ty #[.map (some bm), ag (encId n)]).run P w = .ok (.tuple #[]) { w with heap := w.heap.setIfInBounds bm ob' } ∧ MapO ob' (dropM m n) := by
  obtain ⟨es, c, rfl, rfl, hpw, hlt, hnd⟩ := hm
  have hg : (getObj bm).run P w = .ok (.map (es.map ment).toArray c) w := by simp [getObj, Sem.run, hb]
  have hc := run_checkKey hT.key w ((es.map ment).toArray).isEmpty n 9998
  obtain ⟨r, hr, hl⟩ := run_findKey' hT.key w n es
  have hset : ∀ o, (setObj bm o).run P w = .ok () { w with heap := w.heap.setIfInBounds bm o } := fun o => run_setObj_map hb
  cases hlk : look (es.map fun p => (p.1, p.2.1)) n with
  | none =>
    rw [hlk] at hl
    subst hl
    refine ⟨.map (es.map ment).toArray c, ?_, es, c, rfl, (dropM_none hlk).symm, hpw, hlt, by rw [dropM_none hlk]; exact hnd⟩
    simp only [Builtin.delete_, List.getElem?_toArray, List.getElem?_cons_zero, List.getElem?_cons_succ, Sem.run_bind, run_underlying hT.und, hg, hc, hr, Result.andThen_ok, hset, Sem.run_pure]
  | some v0 =>
    rw [hlk] at hl
    obtain ⟨j, rfl, hj⟩ := hl
    obtain ⟨pre, v, bb, post, rfl, rfl, hpre⟩ := findIdx_split n es j hj
    have hpost : ∀ p ∈ post, p.1 ≠ n := by
      intro p hp he
      rw [List.map_map, List.map_append, List.map_cons, List.nodup_append] at hnd
      have := hnd.2.1
      rw [List.nodup_cons] at this
      exact this.1 (List.mem_map.2 ⟨p, hp, by simpa using he⟩)
    have hd : dropM ((pre ++ (n, v, bb) :: post).map fun p => (p.1, p.2.1)) n = (pre ++ post).map fun p => (p.1, p.2.1) := by
      simp only [dropM, List.map_append, List.map_cons, List.filter_append, List.filter_cons, beq_self_eq_true, Bool.not_true, Bool.false_eq_true, if_false]
      congr 1
      · rw [List.filter_eq_self]; intro p hp
        obtain ⟨q, hq, rfl⟩ := List.mem_map.1 hp
        simpa using hpre q hq
      · rw [List.filter_eq_self]; intro p hp
        obtain ⟨q, hq, rfl⟩ := List.mem_map.1 hp
        simpa using hpost q hq
    have he : (((pre ++ (n, v, bb) :: post).map ment).toArray).eraseIdxIfInBounds pre.length = ((pre ++ post).map ment).toArray := by
      apply Array.ext'
      simp only [Array.toList_eraseIdxIfInBounds]
      rw [List.map_append, List.map_cons, show pre.length = (pre.map ment).length by simp, List.eraseIdx_append_of_length_le (Nat.le_refl _)]
      simp
    refine ⟨.map ((pre ++ post).map ment).toArray c, ?_, pre ++ post, c, rfl, hd.symm, ?_, fun p hp => hlt p (by rcases List.mem_append.1 hp with h | h <;> simp [h]), ?_⟩
    · simp only [Builtin.delete_, List.getElem?_toArray, List.getElem?_cons_zero, List.getElem?_cons_succ, Sem.run_bind, run_underlying hT.und, hg, hc, hr, Result.andThen_ok, hset, he, Sem.run_pure]
    · exact hpw.sublist (List.Sublist.append (List.Sublist.refl _) (List.sublist_cons_self _ _))
    · rw [hd]
      exact hnd.sublist (List.Sublist.map _ (List.Sublist.map _ (List.Sublist.append (List.Sublist.refl _) (List.sublist_cons_self _ _))))

theorem nx_delete {e K' : TypeId} (hT : TMap P T K EL e) {F : Obj → Chunks} {ob : Obj} {m : List (Nm × Value)} {n : Nm} (hx : ev E x = some (.map (some bm))) (hy : ev E y = some (ag (encId n)))
    (hm : MapO ob m) (hu : ∀ ob', Upd bm ob ob' L (F ob')) : Nx P E H L (.call ⟨.builtin .delete, #[x, y], #[T, K']⟩) t (fun _ H' L' => ∃ ob', H = H' ∧ MapO ob' (dropM m n) ∧ L' = F ob') :=
  Nx.of_run fun a w N hA hS => by
    obtain ⟨k, hk, _⟩ := (hu ob).spec
    obtain ⟨ob', h2, h3⟩ := delete_run hT (hS.own _ (List.mem_of_getElem? hk)).1 hm n K' t
    refine ⟨.value (.tuple #[]), _, H, F ob', _, ?_, .inl rfl, Gh.le_refl _, sat_setObj hS (hu ob'), ob', rfl, h3, rfl⟩
    simp [execOp, resolve, invoke, builtin, hA.ev hx, hA.ev hy, h2]

/-! ## An entry that is counted up: its look-up and its store -/
/-- The map m; the entry of n was born then. -/
def MapAt (o : Obj) (m : List (Nm × Value)) (n : Nm) (born : Nat) : Prop :=
  ∃ (es : List (Nm × Value × Nat)) (c : Nat), o = .map (es.map ment).toArray c ∧ es.map (fun p => (p.1, p.2.1)) = m ∧ es.Pairwise (fun p q => p.2.2 < q.2.2) ∧ (∀ p ∈ es, p.2.2 < c) ∧ (m.map (·.1)).Nodup ∧ ∃ v, (n, v, born) ∈ es
theorem MapAt.mapO {o : Obj} {m : List (Nm × Value)} {n : Nm} {born : Nat} (h : MapAt o m n born) : MapO o m := by
  obtain ⟨es, c, h1, h2, h3, h4, h5, _⟩ := h
  exact ⟨es, c, h1, h2, h3, h4, h5⟩

theorem mapEntry_run {e : TypeId} {zz : Value} (hT : TMap P T K EL e) (hz : ∀ w, (zeroValue EL).run P w = .ok zz w) {w : World} {bm : Nat} {ob : Obj} {m : List (Nm × Value)} (hb : w.heap[bm]? = some ob) (hm : MapO ob m) (n : Nm) :
    ∃ (ob' : Obj) (m' : List (Nm × Value)) (born : Nat), (Instr.mapEntry T (.map (some bm)) (ag (encId n))).run P w = .ok (.tuple #[(look m n).getD zz, goInt (born : Int)]) { w with heap := w.heap.setIfInBounds bm ob' } ∧ MapAt ob' m' n born ∧ ∀ n', look m' n' = if n = n' then some ((look m n).getD zz) else look m n' := by
  obtain ⟨es, c, rfl, rfl, hpw, hlt, hnd⟩ := hm
  have hg : (getObj bm).run P w = .ok (.map (es.map ment).toArray c) w := by simp [getObj, Sem.run, hb]
  have hc := run_checkKey hT.key w false n 9998
  obtain ⟨r, hr, hl⟩ := run_findKey' hT.key w n es
  have hset : ∀ o, (setObj bm o).run P w = .ok () { w with heap := w.heap.setIfInBounds bm o } := fun o => run_setObj_map hb
  cases hlk : look (es.map fun p => (p.1, p.2.1)) n with
  | none =>
    rw [hlk] at hl
    subst hl
    have hno : ∀ p ∈ es, p.1 ≠ n := by
      have := (look_none_iff n es).2 hlk
      rw [List.findIdx?_eq_none_iff] at this
      intro p hp; simpa using this p hp
    refine ⟨.map ((es.map ment).toArray.push (ment (n, zz, c))) (c + 1), (es.map fun p => (p.1, p.2.1)) ++ [(n, zz)], c, ?_, ⟨es ++ [(n, zz, c)], c + 1, by simp, by simp, ?_, ?_, ?_, zz, by simp⟩, fun n' => ?_⟩
    · simp only [Instr.mapEntry, Sem.run_bind, run_underlying hT.und, Result.andThen_ok, hg, hc, hr, hz, hset, Sem.run_pure]
      rfl
    · rw [List.pairwise_append]
      exact ⟨hpw, by simp, fun p hp q hq => by simp at hq; subst hq; exact hlt p hp⟩
    · intro p hp
      rcases List.mem_append.1 hp with hp | hp
      · have := hlt p hp; omega
      · simp at hp; subst hp; simp
    · simp only [List.map_append, List.map_cons, List.map_nil]
      rw [List.nodup_append]
      refine ⟨hnd, by simp, ?_⟩
      intro x hx y hy
      simp at hy; subst hy
      obtain ⟨p, hp, rfl⟩ := List.mem_map.1 hx
      obtain ⟨q, hq, rfl⟩ := List.mem_map.1 hp
      exact hno q hq
    · have := look_storeM (es.map fun p => (p.1, p.2.1)) n zz n'
      rw [storeM_new hlk] at this
      exact this
  | some v0 =>
    rw [hlk] at hl
    obtain ⟨j, rfl, hj⟩ := hl
    obtain ⟨pre, v, bb, post, rfl, rfl, hpre⟩ := findIdx_split n es j hj
    have hv : v0 = v := by rw [look_split hpre] at hlk; cases hlk; rfl
    subst hv
    refine ⟨.map ((pre ++ (n, v0, bb) :: post).map ment).toArray c, _, bb, ?_, ⟨pre ++ (n, v0, bb) :: post, c, rfl, rfl, hpw, hlt, hnd, v0, by simp⟩, fun n' => ?_⟩
    · have hk : (((((pre ++ (n, v0, bb) :: post).map ment).toArray)[pre.length]?).map (·.key)).getD (ag (encId n)) = ag (encId n) := by
        simp [ment]
      have hborn : (((((pre ++ (n, v0, bb) :: post).map ment).toArray)[pre.length]?).map fun e => (e.born : Int)).getD 0 = (bb : Int) := by
        simp [ment]
      have hs := sameBits_id n 9998
      have hks : (Instr.keyThatStays (ag (encId n)) (ag (encId n))).run P w = .ok (ag (encId n)) w := by
        rw [Instr.keyThatStays, if_pos hs]; rfl
      have hmod : ((((pre ++ (n, v0, bb) :: post).map ment).toArray).modify pre.length fun e => { e with key := ag (encId n) }) = ((pre ++ (n, v0, bb) :: post).map ment).toArray := by
        apply Array.ext'
        rw [Array.toList_modify]
        simp only [List.map_append, List.map_cons]
        have : (pre.map ment).length = pre.length := by simp
        rw [← this, modify_mid]
        rfl
      simp only [Instr.mapEntry, Sem.run_bind, run_underlying hT.und, Result.andThen_ok, hg, hc, hr, hk, hks, hborn, hmod, hset, Sem.run_pure]
      rfl
    · by_cases hn : n = n'
      · subst hn; rw [if_pos rfl, hlk]; rfl
      · rw [if_neg hn]

theorem nx_mapEntry {e : TypeId} {zz : Value} (hT : TMap P T K EL e) (hz : ∀ w, (zeroValue EL).run P w = .ok zz w) {F : Obj → Chunks} {ob : Obj} {m : List (Nm × Value)} {n : Nm} (hx : ev E x = some (.map (some bm))) (hy : ev E y = some (ag (encId n)))
    (hm : MapO ob m) (hu : ∀ ob', Upd bm ob ob' L (F ob')) : Nx P E H L (.mapEntry T x y) t (fun v H' L' => ∃ (ob' : Obj) (m' : List (Nm × Value)) (born : Nat), v = .tuple #[(look m n).getD zz, i64 (born : Int)] ∧ H = H' ∧ MapAt ob' m' n born ∧ (∀ n', look m' n' = if n = n' then some ((look m n).getD zz) else look m n') ∧ L' = F ob') :=
  Nx.of_run fun a w N hA hS => by
    obtain ⟨k, hk, _⟩ := (hu ob).spec
    obtain ⟨ob', m', born, h2, h3, h5⟩ := mapEntry_run hT hz (hS.own _ (List.mem_of_getElem? hk)).1 hm n
    refine ⟨.value (.tuple #[(look m n).getD zz, goInt (born : Int)]), _, H, F ob', _, ?_, .inl rfl, Gh.le_refl _, sat_setObj hS (hu ob'), ob', m', born, rfl, rfl, h3, h5, rfl⟩
    simp only [execOp, hA.ev hx, hA.ev hy, Sem.run_bind, h2, Result.andThen_ok, Sem.run_pure]

theorem entryStore_run {w : World} {bm : Nat} {ob : Obj} {m : List (Nm × Value)} {n : Nm} {born : Nat} (hb : w.heap[bm]? = some ob) (hm : MapAt ob m n born) (u : Value) (T : TypeId) :
    ∃ ob' m', (Instr.entryStore T (.map (some bm)) (i64 (born : Int)) u).run P w = .ok () { w with heap := w.heap.setIfInBounds bm ob' } ∧ MapO ob' m' ∧ ∀ n', look m' n' = if n = n' then some u else look m n' := by
  obtain ⟨es, c, rfl, rfl, hpw, hlt, hnd, v, hv⟩ := hm
  have hg : (getObj bm).run P w = .ok (.map (es.map ment).toArray c) w := by simp [getObj, Sem.run, hb]
  have hset : ∀ o, (setObj bm o).run P w = .ok () { w with heap := w.heap.setIfInBounds bm o } := fun o => run_setObj_map hb
  obtain ⟨pre, post, rfl⟩ := List.append_of_mem hv
  have hpre : ∀ p ∈ pre, p.2.2 ≠ born := by
    intro p hp
    rw [List.pairwise_append] at hpw
    have := hpw.2.2 p hp (n, v, born) (by simp)
    simp at this; omega
  have hf : ((pre ++ (n, v, born) :: post).map ment).toArray.findIdx? (fun e => (e.born : Int) == (born : Int)) = some pre.length := by
    rw [List.findIdx?_toArray, List.map_append, List.map_cons, List.findIdx?_append]
    have h0 : (pre.map ment).findIdx? (fun e => (e.born : Int) == (born : Int)) = none := by
      rw [List.findIdx?_eq_none_iff]
      intro e he
      obtain ⟨p, hp, rfl⟩ := List.mem_map.1 he
      have := hpre p hp
      simp [ment]; omega
    rw [h0]
    simp [List.findIdx?_cons, ment]
  have hkn : ∀ p ∈ pre, p.1 ≠ n := by
    intro p hp he
    rw [List.map_map, List.map_append, List.map_cons, List.nodup_append] at hnd
    exact hnd.2.2 p.1 (List.mem_map.2 ⟨p, hp, rfl⟩) n (by simp) he
  have hmod : ((((pre ++ (n, v, born) :: post).map ment).toArray).modify pre.length fun e => { e with val := u }) = ((pre ++ (n, u, born) :: post).map ment).toArray := by
    apply Array.ext'
    rw [Array.toList_modify]
    simp only [List.map_append, List.map_cons]
    have : (pre.map ment).length = pre.length := by simp
    rw [← this, modify_mid]
    rfl
  refine ⟨.map ((pre ++ (n, u, born) :: post).map ment).toArray c, (pre ++ (n, u, born) :: post).map fun p => (p.1, p.2.1), ?_, ⟨pre ++ (n, u, born) :: post, c, rfl, rfl, ?_, fun p hp => ?_, ?_⟩, fun n' => ?_⟩
  · have ha : (asInt (i64 (born : Int))).run P w = .ok (born : Int) w := rfl
    simp only [Instr.entryStore, Sem.run_bind, hg, ha, Result.andThen_ok, hf, hmod, hset]
  · rw [List.pairwise_append, List.pairwise_cons] at hpw ⊢
    refine ⟨hpw.1, hpw.2.1, fun x hx y hy => ?_⟩
    rcases List.mem_cons.1 hy with rfl | hy
    · exact hpw.2.2 x hx (n, v, born) (by simp)
    · exact hpw.2.2 x hx y (by simp [hy])
  · rcases List.mem_append.1 hp with hp | hp
    · exact hlt p (by simp [hp])
    · rcases List.mem_cons.1 hp with rfl | hp
      · exact hlt (n, v, born) (by simp)
      · exact hlt p (by simp [hp])
  · simpa using hnd
  · by_cases hn : n = n'
    · subst hn
      rw [if_pos rfl, look_split hkn]
    · rw [if_neg hn]
      have e2 : (n == n') = false := by simp [hn]
      simp [look, List.find?_append, List.find?_cons, e2]

theorem nx_entryStore {F : Obj → Chunks} {ob : Obj} {m : List (Nm × Value)} {n : Nm} {born : Nat} (hx : ev E x = some (.map (some bm))) (hy : ev E y = some (i64 (born : Int))) (hz : ev E z = some u)
    (hm : MapAt ob m n born) (hu : ∀ ob', Upd bm ob ob' L (F ob')) : Nx P E H L (.entryStore T x y z) t (fun v H' L' => ∃ ob' m', v = undef ∧ H = H' ∧ MapO ob' m' ∧ (∀ n', look m' n' = if n = n' then some u else look m n') ∧ L' = F ob') :=
  Nx.of_run fun a w N hA hS => by
    obtain ⟨k, hk, _⟩ := (hu ob).spec
    obtain ⟨ob', m', h2, h3, h5⟩ := entryStore_run (P := P) (hS.own _ (List.mem_of_getElem? hk)).1 hm u T
    refine ⟨.skip, _, H, F ob', undef, ?_, .inr ⟨rfl, rfl⟩, Gh.le_refl _, sat_setObj hS (hu ob'), ob', m', rfl, rfl, h3, h5, rfl⟩
    simp only [execOp, hA.ev hx, hA.ev hy, hA.ev hz, Sem.run_bind, h2, Result.andThen_ok, Sem.run_pure]
end

section
variable {P : Program} {E : Env} {H : Gh} {L : Chunks} {t T K EL : TypeId} {x y z : Operand} {u : Value} {bm : Nat}
theorem nx_mapUpd {e : TypeId} (hT : TMap P T K EL e) {F : Obj → Chunks} {ob : Obj} {m : List (Nm × Value)} {n : Nm} (hx : ev E x = some (.map (some bm))) (hy : ev E y = some (ag (encId n))) (hz : ev E z = some u)
    (hm : MapO ob m) (hu : ∀ ob', Upd bm ob ob' L (F ob')) : Nx P E H L (.mapUpdate T x y z) t (fun v H' L' => ∃ ob', v = undef ∧ H = H' ∧ MapO ob' (storeM m n u) ∧ L' = F ob') :=
  Nx.of_run fun a w N hA hS => by
    obtain ⟨k, hk, _⟩ := (hu ob).spec
    obtain ⟨ob', h2, h3⟩ := mapUpdate_run hT (hS.own _ (List.mem_of_getElem? hk)).1 hm n u
    refine ⟨.skip, _, H, F ob', undef, ?_, .inr ⟨rfl, rfl⟩, Gh.le_refl _, sat_setObj hS (hu ob'), ob', rfl, rfl, h3, rfl⟩
    simp only [execOp, hA.ev hx, hA.ev hy, hA.ev hz, Sem.run_bind, h2, Result.andThen_ok, Sem.run_pure]
end

/-! ## Operations in a map; counts in a map -/
/-- The entries of the map o are the operations l, their lists of names standing for good. -/
def EntO (H : Gh) (o : Obj) (l : List (Nm × POp)) : Prop :=
  ∃ E : List (Nm × POp × Value), MapO o (E.map fun t => (t.1, ag (encOp t.2.1 t.2.2))) ∧ E.map (fun t => (t.1, t.2.1)) = l ∧ ∀ t ∈ E, Ids H [] t.2.2 t.2.1.preds
theorem EntO.up {H H' : Gh} {o : Obj} {l : List (Nm × POp)} (h : EntO H o l) (hH : H ≤ H') : EntO H' o l := by
  obtain ⟨E, h1, h2, h3⟩ := h
  exact ⟨E, h1, h2, fun t ht => (h3 t ht).up hH⟩
theorem EntO.nodup {H : Gh} {o : Obj} {l : List (Nm × POp)} (h : EntO H o l) : (l.map (·.1)).Nodup := by
  obtain ⟨E, ⟨es, c, _, h4, _, _, h5⟩, rfl, _⟩ := h
  simpa [List.map_map, Function.comp_def] using h5
/-- What a look-up gives. -/
theorem EntO.look {H : Gh} {o : Obj} {l : List (Nm × POp)} (h : EntO H o l) : ∃ m, MapO o m ∧ m.map (·.1) = l.map (·.1) ∧ ∀ n, (Tr.get l n = none ∧ VK.look m n = none) ∨ (∃ op pv, Tr.get l n = some op ∧ VK.look m n = some (ag (encOp op pv)) ∧ Ids H [] pv op.preds) := by
  obtain ⟨E, h1, rfl, h3⟩ := h
  refine ⟨_, h1, by simp [List.map_map, Function.comp_def], fun n => ?_⟩
  have hf : (E.map fun t => (t.1, ag (encOp t.2.1 t.2.2))).find? (fun p => p.1 == n) = (E.find? fun t => t.1 == n).map fun t => (t.1, ag (encOp t.2.1 t.2.2)) := by
    rw [List.find?_map]; rfl
  have hg : (E.map fun t => (t.1, t.2.1)).find? (fun p => p.1 == n) = (E.find? fun t => t.1 == n).map fun t => (t.1, t.2.1) := by
    rw [List.find?_map]; rfl
  simp only [Tr.get, VK.look, hf, hg]
  cases hx : E.find? (fun t => t.1 == n) with
  | none => exact .inl ⟨rfl, rfl⟩
  | some t => exact .inr ⟨t.2.1, t.2.2, rfl, rfl, h3 t (List.mem_of_find?_eq_some hx)⟩
/-- A new operation. -/
theorem EntO.store {H : Gh} {o : Obj} {l : List (Nm × POp)} (h : EntO H o l) {n : Nm} {op : POp} {pv : Value} (hn : has l n = false) (hp : Ids H [] pv op.preds) :
    ∃ m, MapO o m ∧ ∀ o', MapO o' (storeM m n (ag (encOp op pv))) → EntO H o' (l ++ [(n, op)]) := by
  obtain ⟨E, h1, rfl, h3⟩ := h
  refine ⟨_, h1, fun o' h' => ⟨E ++ [(n, op, pv)], ?_, by simp, fun t ht => ?_⟩⟩
  · have hl : VK.look (E.map fun t => (t.1, ag (encOp t.2.1 t.2.2))) n = none := by
      simp only [VK.look, Option.map_eq_none_iff, List.find?_eq_none]
      intro p hp
      obtain ⟨t, ht, rfl⟩ := List.mem_map.1 hp
      have := hn
      rw [has, List.any_eq_false] at this
      exact this (t.1, t.2.1) (List.mem_map.2 ⟨t, ht, rfl⟩)
    rw [storeM_new hl] at h'
    simpa using h'
  · rcases List.mem_append.1 ht with h | h
    · exact h3 t h
    · rw [List.mem_singleton.1 h]; exact hp
theorem EntO.drop {H : Gh} {o : Obj} {l : List (Nm × POp)} (h : EntO H o l) (n : Nm) : ∃ m, MapO o m ∧ ∀ o', MapO o' (dropM m n) → EntO H o' (l.filter fun p => !(p.1 == n)) := by
  obtain ⟨E, h1, rfl, h3⟩ := h
  refine ⟨_, h1, fun o' h' => ⟨E.filter fun t => !(t.1 == n), ?_, ?_, fun t ht => h3 t (List.mem_filter.1 ht).1⟩⟩
  · rw [dropM, List.filter_map] at h'; exact h'
  · rw [List.filter_map]; rfl
/-- Counts in a map. -/
def CntO (o : Obj) (f : Nm → Nat) : Prop := ∃ m, MapO o m ∧ ∀ n, (VK.look m n).getD (i64 0) = i64 (f n)
end Go.VK

/-
  How the recipes of operations lie in memory; memory that stands for good from now on.
-/
set_option linter.unusedSimpArgs false
set_option linter.unusedVariables false
set_option linter.unnecessarySimpa false
set_option linter.all false
namespace Go.VK
open Go.Tr

def encMakeV (p : Tr.Make × Value) : List Value := [i64 p.1.kind, i64 p.1.author] ++ (encDraft p.1.draft ++ ([i64 p.1.at_, i64 p.1.other, i64 p.1.deep] ++ encOp p.1.op p.2))
@[simp] theorem encMakeV_length (p : Tr.Make × Value) : (encMakeV p).length = 78 := by simp [encMakeV]
theorem encMakeV_ones {p : Tr.Make × Value} (h : p.2.oneCell' = true) : oneCells (encMakeV p) :=
  oneCells_append (oneCells_of_all rfl) (oneCells_append (encDraft_ones _) (oneCells_append (oneCells_of_all rfl) (encOp_ones _ h)))
theorem encMakeV_seg_draft (p : Tr.Make × Value) : Seg (encMakeV p) 2 (encDraft p.1.draft) := Seg.skip (p := [i64 p.1.kind, i64 p.1.author]) Seg.head rfl
theorem encMakeV_at (p : Tr.Make × Value) (j : Nat) (h : j < 3) : (encMakeV p)[37 + j]? = [i64 p.1.at_, i64 p.1.other, i64 p.1.deep][j]? := by
  rw [encMakeV, List.getElem?_append_right (by simp; omega), List.getElem?_append_right (by simp; omega), List.getElem?_append_left (by simp; omega)]
  simp only [encDraft_length, List.length_cons, List.length_nil]
  congr 1; omega
@[simp] theorem encMakeV_0 (p : Tr.Make × Value) : (encMakeV p)[0]? = some (i64 p.1.kind) := rfl
@[simp] theorem encMakeV_1 (p : Tr.Make × Value) : (encMakeV p)[1]? = some (i64 p.1.author) := rfl
@[simp] theorem encMakeV_37 (p : Tr.Make × Value) : (encMakeV p)[37]? = some (i64 p.1.at_) := encMakeV_at p 0 (by decide)
@[simp] theorem encMakeV_38 (p : Tr.Make × Value) : (encMakeV p)[38]? = some (i64 p.1.other) := encMakeV_at p 1 (by decide)
@[simp] theorem encMakeV_39 (p : Tr.Make × Value) : (encMakeV p)[39]? = some (i64 p.1.deep) := encMakeV_at p 2 (by decide)
theorem encMakeV_seg_op (p : Tr.Make × Value) : Seg (encMakeV p) 40 (encOp p.1.op p.2) := by
  have h1 : Seg ([i64 p.1.at_, i64 p.1.other, i64 p.1.deep] ++ encOp p.1.op p.2) 3 (encOp p.1.op p.2) := Seg.skip (Seg.all _) rfl
  have h2 : Seg (encDraft p.1.draft ++ ([i64 p.1.at_, i64 p.1.other, i64 p.1.deep] ++ encOp p.1.op p.2)) 38 (encOp p.1.op p.2) := Seg.skip h1 (by simp)
  exact Seg.skip (p := [i64 p.1.kind, i64 p.1.author]) h2 rfl

/-- What a slice's header gives at a place. -/
theorem slt_at {α : Type} {enc : α → List Value} {k : Nat} {H : Gh} {L : Chunks} {b off : Nat} {l : List Value} {a : Option Addr} {xs : List α} (h1 : xs ≠ [] → a = some ⟨b, off, none⟩ ∧ Cells H L b l) (h2 : ∀ j x, xs[j]? = some x → Seg l (off + j * k) (enc x))
    {j : Nat} {i : Int} {x : α} (hx : xs[j]? = some x) (hi : i = (j : Int)) : a = some ⟨b, off, none⟩ ∧ Cells H L b l ∧ Seg l (off + i.toNat * k) (enc x) := by
  subst hi
  have hj := (List.getElem?_eq_some_iff.1 hx).1
  obtain ⟨h3, h4⟩ := h1 (List.ne_nil_of_length_pos (by omega))
  exact ⟨h3, h4, by rw [Int.toNat_natCast]; exact h2 j x hx⟩

/-! ## Sealing -/
theorem Ow.fixed {α : Type} {enc : α → List Value} {e k n : Nat} {C L : Chunks} {v : Value} {xs : List α} {H : Gh} {w : World} (hk : ∀ x, (enc x).length = k) (hO : Ow e k C v n (xs.flatMap enc)) (hn : xs.length = n) (hlt : n < 4611686018427387904) (hS : Sat w H (C ++ L)) :
    ∃ H', H ≤ H' ∧ SlT enc k H' [] v xs ∧ Sat w H' L := by
  obtain ⟨hlen, h | ⟨b, cap, rest, z, rfl, hc, hr, rfl, hz⟩⟩ := hO
  · obtain ⟨rfl, rfl, rfl⟩ := h
    have : xs = [] := List.length_eq_zero_iff.1 hn
    subst this
    exact ⟨H, Gh.le_refl _, SlT.nil, by simpa using hS⟩
  · have hS' : Sat w H ((b, .cells (xs.flatMap enc ++ rest).toArray e z) :: L) := hS
    subst hn
    refine ⟨_, Gh.le_add hS'.free, ⟨some ⟨b, 0, none⟩, b, 0, cap, xs.flatMap enc ++ rest, rfl, hc, hlt, (fun h => by cases h), fun _ => ⟨rfl, e, z, .inl (Gh.add_self _ _)⟩, fun j x hx => ?_⟩, hS'.fixed⟩
    rw [Nat.zero_add]
    exact Seg.append_left (flat_seg hk xs j x hx)
section
variable {α : Type} {enc : α → List Value} {e k m : Nat} {C L : Chunks} {v : Value} {xs : List α} {H : Gh} {P : Program} {c : Code} {Q : Exit → Act → World → Prop} {n : Nat} {E : Env}
theorem gc_sealOw (hk : ∀ x, (enc x).length = k) (hO : Ow e k C v m (xs.flatMap enc)) (hn : xs.length = m) (hlt : m < 4611686018427387904) (h : ∀ H', H ≤ H' → SlT enc k H' [] v xs → GC P c Q n E H' L) : GC P c Q n E H (C ++ L) := fun a w hA hS => by
  obtain ⟨H', h1, h2, h3⟩ := hO.fixed hk hn hlt hS
  exact h H' h1 h2 a w hA h3
theorem gk_sealOw {x : Exit} (hk : ∀ x, (enc x).length = k) (hO : Ow e k C v m (xs.flatMap enc)) (hn : xs.length = m) (hlt : m < 4611686018427387904) (h : ∀ H', H ≤ H' → SlT enc k H' [] v xs → GK Q x n E H' L) : GK Q x n E H (C ++ L) := fun a w hA hS => by
  obtain ⟨H', h1, h2, h3⟩ := hO.fixed hk hn hlt hS
  exact h H' h1 h2 a w hA h3
theorem gr_sealOw {ops : List Oper} {M : Option (Gh × Chunks)} {r : List (Fl × Nat)} (hk : ∀ x, (enc x).length = k) (hO : Ow e k C v m (xs.flatMap enc)) (hn : xs.length = m) (hlt : m < 4611686018427387904) (h : ∀ H', H ≤ H' → SlT enc k H' [] v xs → GR P ops M Q n E r H' L) : GR P ops M Q n E r H (C ++ L) := fun a w hA hS => by
  obtain ⟨H', h1, h2, h3⟩ := hO.fixed hk hn hlt hS
  exact h H' h1 h2 a w hA h3
end

/-! ## Numbers -/
theorem wrap_range (x : Int) : -9223372036854775808 ≤ wrap x ∧ wrap x < 9223372036854775808 := by
  unfold wrap; omega
theorem pick_lt (i : Int) {n : Nat} (h : 0 < n) : pickAt i n < n := Nat.mod_lt _ h
theorem pick_wrap (i : Int) {n : Nat} (h : 0 < n) (hn : n < 16777216) : IntKind.i64.wrap ((IntKind.u64.wrap i).tmod (n : Int)) = ((pickAt i n : Nat) : Int) := by
  have e1 : IntKind.u64.wrap i = i % 18446744073709551616 := by simp [IntKind.wrap, IntKind.bits, IntKind.signed]
  have h0 : 0 ≤ i % 18446744073709551616 := by omega
  rw [e1, Int.tmod_eq_emod_of_nonneg h0]
  have e2 : (i % 18446744073709551616) % (n : Int) = ((pickAt i n : Nat) : Int) := by
    unfold pickAt
    rw [Int.natCast_emod, Int.toNat_of_nonneg h0]
  rw [e2]
  have := pick_lt i h
  exact IntWalk.i64_in _ (by omega)
/-- Numbers of 64 bits. -/
structure RngO (o : POp) : Prop where
  kind : o.draft.kind < 9223372036854775808
  author : o.author < 9223372036854775808
  depth : o.depth < 9223372036854775808
structure RngM (m : Tr.Make) : Prop where
  draft : m.draft.kind < 9223372036854775808
  author : m.author < 9223372036854775808
  op : RngO m.op
theorem next_ok {s : DSet} {a : Int} {d : Draft} (h : (next s a d).2 = 0) : (next s a d).1 = ⟨d, a, depthOf s (heads s), heads s⟩ := by
  unfold next at *
  split at h
  · cases h
  · rename_i h1
    rw [if_neg h1]
    split at h
    · cases h
    · rename_i h2
      rw [if_neg h2]
theorem madeGo_none {k : Nat} {m : Tr.Make} {r : List Tr.Make} {s : DSet} {out : List POp} (h : makeOp s out m = none) : madeGo (k + 1) (m :: r) s out = madeGo k r s out := by
  rw [madeGo]; simp only [h]
theorem madeGo_big {k : Nat} {m : Tr.Make} {r : List Tr.Make} {s : DSet} {out : List POp} {o : POp} (h : makeOp s out m = some o) (hb : 70 < o.preds.length ∨ 100 < o.draft.key.length ∨ 100 < o.draft.value.length) :
    madeGo (k + 1) (m :: r) s out = madeGo k r s out := by
  rw [madeGo]; simp only [h]; rw [if_pos hb]
theorem madeGo_some {k : Nat} {m : Tr.Make} {r : List Tr.Make} {s : DSet} {out : List POp} {o : POp} (h : makeOp s out m = some o) (hb : ¬ (70 < o.preds.length ∨ 100 < o.draft.key.length ∨ 100 < o.draft.value.length)) :
    madeGo (k + 1) (m :: r) s out = madeGo k r (take s o).1 (out ++ [o]) := by
  rw [madeGo]; simp only [h]; rw [if_neg hb]
theorem madeGo_nil {k : Nat} {s : DSet} {out : List POp} : madeGo k [] s out = out := by cases k <;> rfl
theorem settle_len : ∀ (k : Nat) (s : DSet) (out : List Nm), (Tr.settle k s out).1.ops.length + (Tr.settle k s out).1.wait.length ≤ s.ops.length + s.wait.length
  | 0, s, out => Nat.le_refl _
  | k + 1, s, out => by
    rw [Tr.settle]
    split
    · exact Nat.le_refl _
    · split
      · exact Nat.le_refl _
      · rename_i i n _ _ _ o ho
        dsimp only
        have hi := (List.getElem?_eq_some_iff.1 ho).1
        have he : (s.wait.eraseIdx i).length = s.wait.length - 1 := List.length_eraseIdx_of_lt hi
        split
        · have := settle_len k ⟨s.ops ++ [(n, o)], s.wait.eraseIdx i⟩ (out ++ [n])
          simp only [List.length_append, List.length_cons, List.length_nil] at this
          refine Nat.le_trans this ?_
          rw [he]; omega
        · have := settle_len k ⟨s.ops, s.wait.eraseIdx i⟩ out
          refine Nat.le_trans this ?_
          show s.ops.length + (s.wait.eraseIdx i).length ≤ _
          rw [he]; omega
theorem take_len (s : DSet) (o : POp) : (take s o).1.ops.length + (take s o).1.wait.length ≤ s.ops.length + s.wait.length + 1 := by
  unfold take
  split
  · exact Nat.le_succ _
  · split
    · exact Nat.le_succ _
    · split
      · simp only [List.length_append, List.length_cons, List.length_nil]; omega
      · split
        · exact Nat.le_succ _
        · have := settle_len (s.wait.length + 1) ⟨s.ops ++ [(nameOf o, o)], s.wait⟩ [nameOf o]
          simp only [List.length_append, List.length_cons, List.length_nil] at this
          refine Nat.le_trans this ?_
          omega
end Go.VK

/-
  Walks: the operations that are made of recipes.
-/
set_option linter.unusedSimpArgs false
set_option linter.unusedVariables false
set_option linter.unnecessarySimpa false
set_option linter.all false
namespace Go.Proofs.YtfhldfjknagidaaDoor
open Go.VK Go.Tr
set_option maxRecDepth 20000
attribute [local irreducible] Go.Tr.sha
theorem RSet.up {H H' : Gh} {s : DSet} {v0 v1 v2 v3 : Value} {ov wv : List (POp × Value)} {C0 C1 C2 C3 : Chunks} (h : RSet H s v0 v1 v2 v3 ov wv C0 C1 C2 C3) (hH : H ≤ H') : RSet H' s v0 v1 v2 v3 ov wv C0 C1 C2 C3 :=
  ⟨h.ops, h.opsE, h.wait, h.waitE, h.names, h.waits, fun p hp => (h.preds p hp).up hH, fun p hp => (h.predsW p hp).up hH⟩
structure MS where
  k : Nat
  s : DSet
  o : List (POp × Value)
  v0 : Value
  v1 : Value
  v2 : Value
  v3 : Value
  ov : List (POp × Value)
  wv : List (POp × Value)
  C0 : Chunks
  C1 : Chunks
  C2 : Chunks
  C3 : Chunks
  Co : Chunks
  vo : Value
/-- What is made fits. -/
structure FitO (o : POp) : Prop where
  rng : RngO o
  preds : o.preds.length ≤ 70
  key : o.draft.key.length ≤ 100
  value : o.draft.value.length ≤ 100
theorem FitO.small {o : POp} (h : FitO o) : SmallO o :=
  ⟨⟨h.rng.kind, Nat.lt_of_le_of_lt h.key (by decide), Nat.lt_of_le_of_lt h.value (by decide)⟩, h.rng.author, h.rng.depth, Nat.lt_of_le_of_lt h.preds (by decide)⟩
/-- How a made operation comes of two that were made. -/
def byTwo (m : Tr.Make) (a b : POp) : POp := ⟨m.draft, m.author, wrap (wrap (1 + max a.depth b.depth) + m.deep.tmod 3), if a = b then rising [nameOf a] else rising [nameOf a, nameOf b]⟩
theorem makeOp_two {s : DSet} {out : List POp} {m : Tr.Make} (h : m.kind = 1) (h0 : 0 < out.length) : makeOp s out m = some (byTwo m (out.getD (pickAt m.at_ out.length) zeroOp) (out.getD (pickAt m.other out.length) zeroOp)) := by
  unfold makeOp byTwo
  rw [if_neg (by omega), if_pos ⟨h, h0⟩]
theorem makeOp_self {s : DSet} {out : List POp} {m : Tr.Make} (h0 : m.kind ≠ 0) (h : ¬ (m.kind = 1 ∧ 0 < out.length)) : makeOp s out m = some m.op := by
  unfold makeOp
  rw [if_neg h0, if_neg h]
theorem makeOp_next {s : DSet} {out : List POp} {m : Tr.Make} (h0 : m.kind = 0) (h : (next s m.author m.draft).2 = 0) : makeOp s out m = some (next s m.author m.draft).1 := by
  unfold makeOp
  rw [if_pos h0, if_pos h]
theorem makeOp_bad {s : DSet} {out : List POp} {m : Tr.Make} (h0 : m.kind = 0) (h : (next s m.author m.draft).2 ≠ 0) : makeOp s out m = none := by
  unfold makeOp
  rw [if_pos h0, if_neg h]
theorem getD_map {l : List (POp × Value)} {i : Nat} (h : i < l.length) : (l.map (·.1)).getD i zeroOp = (l[i]).1 := by
  rw [List.getD_eq_getElem?_getD, List.getElem?_map, List.getElem?_eq_getElem h]; rfl
theorem imax_eq (a b : Int) : (if b > a then b else a) = max a b := by
  split <;> omega
theorem rising_len2 (a b : Nm) : (rising [a, b]).length = 2 := rising_length _

set_option maxHeartbeats 4000000 in
theorem made_cc (H : Gh) (L : Chunks) (v : Value) (xs : List (Tr.Make × Value)) (hM : SlT encMakeV 78 H [] v xs) (hMp : ∀ p ∈ xs, Ids H [] p.2 p.1.op.preds) (hMr : ∀ p ∈ xs, RngM p.1) :
    CC Tryd.prog 11 #[v] H L (fun u H' L' => ∃ (ov : List (POp × Value)) (C : Chunks), Ow 38 38 C u ov.length (ov.flatMap encOpV) ∧ ov.map (·.1) = made (xs.map (·.1)) ∧ (∀ p ∈ ov, Ids H' [] p.2 p.1.preds ∧ FitO p.1) ∧ ov.length ≤ 30 ∧ C ++ L = L') := by
 obtain ⟨A, bv, of, cv, lv, rfl, hcv, hnv, hv0, hv1, hv2⟩ := hM
 refine cc_of Tryd.func11 rfl (Nat.le_of_ble_eq_true rfl) ?_
 simp only [Tryd.ntmps11]
 refine gc_seq (gc_seqr [(.mv, 0)] rfl ?_)
 refine ga rfl rfl rfl rfl ?_
 refine gr_nil (gk_then ?_)
 refine gc_seq (gc_seqr [(.mv, 0), (.nm, 1), (.mv, 2)] rfl ?_)
 refine gr_rd rfl rfl rfl (rd_build Tryd.bt48 (ps := []) (l := [nilS, nilS, nilS, nilS]) rfl rfl) ?_
 refine gr_nx rfl rfl rfl (nx_box rfl rfl) ?_; rintro _ _ _ _ ⟨b13, rfl, rfl, rfl⟩; refine ⟨trivial, ?_⟩
 refine ga rfl rfl rfl rfl ?_
 refine gr_nil (gk_then ?_)
 refine gc_seq (gc_seqr [(.mv, 0)] rfl ?_)
 refine ga rfl rfl rfl rfl ?_
 refine gr_nil (gk_then ?_)
 refine gc_seq ?_
 refine gc_seq (gc_seqr [(.mv, 0), (.mv, 1), (.mv, 2)] rfl ?_)
 refine gm rfl rfl rfl rfl ?_
 refine gr_rd rfl rfl rfl (rd_lenS Tryd.underlying22 rfl) ?_
 refine gm rfl rfl rfl rfl ?_
 refine gr_nil (gk_then ?_)
 refine gc_block ?_
 refine gc_loop (fun t : MS => [(3, pt b13 0), (4, t.vo), (14, .slice A xs.length cv), (15, i64 xs.length), (16, i64 t.k)]) (fun t H1 L1 => H ≤ H1 ∧ (b13, .cells [t.v0, t.v1, t.v2, t.v3].toArray 48 (0, 0)) :: (t.C0 ++ (t.C1 ++ (t.C2 ++ (t.C3 ++ (t.Co ++ L))))) = L1 ∧ RSet H1 t.s t.v0 t.v1 t.v2 t.v3 t.ov t.wv t.C0 t.C1 t.C2 t.C3 ∧ Ow 38 38 t.Co t.vo t.o.length (t.o.flatMap encOpV) ∧ (∀ p ∈ t.o, Ids H1 [] p.2 p.1.preds ∧ FitO p.1) ∧ t.k ≤ xs.length ∧ t.k ≤ 30 ∧ t.o.length ≤ t.k ∧ t.s.ops.length + t.s.wait.length ≤ t.k ∧ madeGo (30 - t.k) ((xs.map (·.1)).drop t.k) t.s (t.o.map (·.1)) = made (xs.map (·.1))) (fun t => xs.length - t.k) (⟨0, DSet.empty, [], nilS, nilS, nilS, nilS, [], [], [], [], [], [], [], nilS⟩) ?_ sbs ?_
 ·exact ⟨Gh.le_refl _, rfl, ⟨Ow.nil, rfl, Ow.nil, rfl, Ow.nil, Ow.nil, (fun p hp => by cases hp), (fun p hp => by cases hp)⟩, Ow.nil, (fun p hp => by cases hp), Nat.zero_le _, Nat.zero_le _, Nat.le_refl _, Nat.le_refl _, rfl⟩
 ·rintro ⟨k, s, ov, v0, v1, v2, v3, sv, sw, C0, C1, C2, C3, Co, vo⟩ H1 L1 ⟨hH1, rfl, hS, hO, hov, hk, hk30, hol, hsl, hgo⟩
  simp only at hS hO hov hk hk30 hol hsl hgo
  obtain ⟨Ao, co, rfl, hco⟩ := hO.slice
  show GC _ _ _ _ [(3, pt b13 0), (4, (.slice Ao ov.length co)), (14, .slice A xs.length cv), (15, i64 xs.length), (16, i64 k)] H1 ((b13, .cells [v0, v1, v2, v3].toArray 48 (0, 0)) :: (C0 ++ (C1 ++ (C2 ++ (C3 ++ (Co ++ L))))))
  refine gc_seq (gc_seqr [(.mv, 0)] rfl ?_)
  refine gr_rd rfl rfl rfl (rd_lss rfl rfl) ?_
  refine gr_nil (gk_then ?_)
  refine gc_seq ?_
  refine gc_cond rfl (fun hc0 => ?_) (fun hc0 => ?_)
  ·have hlt : k < xs.length := by simpa using hc0
   obtain ⟨mk, hmk⟩ : ∃ mk, xs[k]? = some mk := ⟨_, List.getElem?_eq_getElem hlt⟩
   obtain ⟨hAe, hca, hsa⟩ := slt_at (i := (k : Int)) hv1 hv2 hmk rfl
   have hca1 := hca.mono (L' := ((b13, .cells [v0, v1, v2, v3].toArray 48 (0, 0)) :: (C0 ++ (C1 ++ (C2 ++ (C3 ++ (Co ++ L))))))) hH1 (fun x hx => by cases hx)
   have hmm := List.mem_of_getElem? hmk
   have hmp := (hMp mk hmm).up hH1
   have hmr := hMr mk hmm
   have hdk : (xs.map (·.1)).drop k = mk.1 :: (xs.map (·.1)).drop (k + 1) := by
     have h1 : k < (xs.map (·.1)).length := by simpa using hlt
     rw [List.drop_eq_getElem_cons h1]
     congr 1
     rw [List.getElem_map]
     rw [List.getElem?_eq_getElem hlt] at hmk
     rw [Option.some.inj hmk]
   refine gc_skip ?_
   refine gk_then ?_
   refine gc_seq ?_
   refine gc_block ?_
   refine gc_seq (gc_seqr [(.mv, 0), (.mv, 1), (.mv, 2), (.nm, 3), (.mv, 4), (.nm, 5)] rfl ?_)
   refine gm rfl rfl rfl rfl ?_
   refine gr_rd rfl rfl rfl (rd_indexS Tryd.underlying22 Tryd.sizeOf78 rfl rfl hAe (by omega) (by omega)) ?_
   refine gr_rd rfl rfl rfl (rd_loadA Tryd.ta78 rfl hca1 hsa (encMakeV_length _)) ?_
   refine gr_nx rfl rfl rfl (nx_alloc Tryd.zeroValue78 rfl) ?_; rintro _ _ _ _ ⟨b6, rfl, rfl, rfl⟩; refine ⟨trivial, ?_⟩
   refine ga rfl rfl rfl rfl ?_
   refine gr_nx0 rfl rfl (nx_store (vs := encMakeV mk) Tryd.sizeOf78 rfl rfl rfl (encMakeV_length _) upd (by simp) (encMakeV_ones hmp.one)) ?_; rintro _ _ _ _ ⟨rfl, rfl, rfl⟩; refine ⟨trivial, ?_⟩
   rw [wr_all (by simp)]
   refine gr_nil (gk_then ?_)
   refine gc_seq ?_
   refine gc_seq (gc_seqr [(.mv, 0), (.mv, 1)] rfl ?_)
   refine gm rfl rfl rfl rfl ?_
   refine gr_rd rfl rfl rfl (rd_eql rfl rfl) ?_
   refine gr_nil (gk_then ?_)
   refine gc_cond rfl (fun hc1 => ?_) (fun hc1 => ?_)
   ·have hk3 : k = 30 := by simp at hc1; omega
    have hgo2 : ov.map (·.1) = made (xs.map (·.1)) := by rw [← hgo, hk3]; rfl
    refine gc_exit ?_
    refine gk_exit_then ?_
    refine gk_there rfl ?_
    refine gk_exit_then ?_
    refine gk_exit_then ?_
    refine gk_here ?_
    refine gk_then ?_
    refine gc_seq (gc_seqr [(.mv, 0), (.mv, 1)] rfl ?_)
    refine gm rfl rfl rfl rfl ?_
    refine ga rfl rfl rfl rfl ?_
    refine gr_nil (gk_then ?_)
    refine gc_ret ?_
    refine gk_result (L' := Co ++ L) (.inl rfl) _ (res1 rfl rfl) sbl gle ?_
    exact ⟨ov, Co, hO, hgo2, hov, by omega, rfl⟩
   ·have hk3 : k ≠ 30 := by simp at hc1; omega
    have hf30 : 30 - k = (30 - (k + 1)) + 1 := by omega
    rw [hdk, hf30] at hgo
    refine gc_skip ?_
    refine gk_then ?_
    refine gc_seq (gc_seqr [(.mv, 0), (.mv, 1), (.nm, 2), (.nm, 3)] rfl ?_)
    refine gr_rd rfl rfl rfl (rd_fieldAddr Tryd.fa78_6 rfl) ?_
    refine gr_rd rfl rfl rfl (rd_loadA Tryd.ta38 rfl (Cells.own List.mem_cons_self) (encMakeV_seg_op mk) (encOp_length _ _)) ?_
    refine gr_nx rfl rfl rfl (nx_alloc Tryd.zeroValue38 rfl) ?_; rintro _ _ _ _ ⟨b7, rfl, rfl, rfl⟩; refine ⟨trivial, ?_⟩
    refine gr_nx0 rfl rfl (nx_store (vs := encOp mk.1.op mk.2) Tryd.sizeOf38 rfl rfl rfl (encOp_length _ _) upd (by simp) (encOp_ones _ hmp.one)) ?_; rintro _ _ _ _ ⟨rfl, rfl, rfl⟩; refine ⟨trivial, ?_⟩
    rw [wr_all (by simp)]
    refine gr_nil (gk_then ?_)
    refine gc_cut (fun q : POp × Value => [(3, pt b13 0), (4, (.slice Ao ov.length co)), (14, .slice A xs.length cv), (15, i64 xs.length), (16, i64 k), (6, pt b6 0), (7, pt b7 0)]) (fun q H2 L2 => H1 ≤ H2 ∧ (b7, .cells (encOpV q).toArray 38 (0, 0)) :: (b6, .cells (encMakeV mk).toArray 78 (0, 0)) :: ((b13, .cells [v0, v1, v2, v3].toArray 48 (0, 0)) :: (C0 ++ (C1 ++ (C2 ++ (C3 ++ (Co ++ L)))))) = L2 ∧ Ids H2 [] q.2 q.1.preds ∧ RngO q.1 ∧ (mk.1.kind = 0 → (next s mk.1.author mk.1.draft).2 = 0 ∧ q.1 = (next s mk.1.author mk.1.draft).1) ∧ (mk.1.kind ≠ 0 → q.1 = mk.1.op)) ?_ ?_
    ·skip
     refine gc_seq (gc_seqr [(.mv, 0), (.mv, 1), (.mv, 2)] rfl ?_)
     refine gr_rd rfl rfl rfl (rd_fieldAddr Tryd.fa78_0 rfl) ?_
     refine gr_rd rfl rfl rfl (rd_load1 Tryd.to3 rfl (Cells.own (l := encMakeV mk) (T := 78) (z := (0, 0)) (by simp [baseL])) (encMakeV_0 _)) ?_
     refine gr_rd rfl rfl rfl (rd_eql rfl rfl) ?_
     refine gr_nil (gk_then ?_)
     refine gc_cond rfl (fun hc2 => ?_) (fun hc2 => ?_)
     ·have hk0 : mk.1.kind = 0 := by simpa using hc2
      refine gc_seq (gc_seqr [(.mv, 0), (.mv, 1), (.mv, 2), (.mv, 3), (.mv, 4), (.nm, 5), (.mv, 6), (.mv, 7), (.mv, 8), (.nm, 9), (.nm, 10), (.mv, 11)] rfl ?_)
      refine gm rfl rfl rfl rfl ?_
      refine gr_rd rfl rfl rfl (rd_fieldAddr Tryd.fa78_1 rfl) ?_
      refine gr_rd rfl rfl rfl (rd_load1 Tryd.to3 rfl (Cells.own (l := encMakeV mk) (T := 78) (z := (0, 0)) (by simp [baseL])) (encMakeV_1 _)) ?_
      refine gr_rd rfl rfl rfl (rd_fieldAddr Tryd.fa78_2 rfl) ?_
      refine gr_rd rfl rfl rfl (rd_loadA Tryd.ta36 rfl (Cells.own (l := encMakeV mk) (T := 78) (z := (0, 0)) (by simp [baseL])) (encMakeV_seg_draft mk) (encDraft_length _)) ?_
      have hhl := heads_le s
      refine gr_nx rfl rfl rfl (nx_call Tryd.en27 rfl (rnext_cc _ _ (hS.view (T := 48) (z := (0, 0)) (by omega) (by simp) (by intro x hx; simp [hx]) (by intro x hx; simp [hx]) (by intro x hx; simp [hx]) (by intro x hx; simp [hx])) (by omega) mk.1.author mk.1.draft)) ?_; rintro v34 H' L' hle ⟨Cn, pn, rfl, hCn, rfl, rfl⟩; refine ⟨trivial, ?_⟩
      refine gm rfl rfl rfl rfl ?_
      refine gr_rd rfl rfl rfl (rd_extract rfl rfl) ?_
      refine gr_rd rfl rfl rfl (rd_extract rfl rfl) ?_
      refine gr_nx rfl rfl rfl (nx_alloc Tryd.zeroValue38 rfl) ?_; rintro _ _ _ _ ⟨b8, rfl, rfl, rfl⟩; refine ⟨trivial, ?_⟩
      refine gr_nx0 rfl rfl (nx_store (vs := encOp (next s mk.1.author mk.1.draft).1 pn) Tryd.sizeOf38 rfl rfl rfl (encOp_length _ _) upd (by simp) (encOp_ones _ hCn.one)) ?_; rintro _ _ _ _ ⟨rfl, rfl, rfl⟩; refine ⟨trivial, ?_⟩
      rw [wr_all (by simp)]
      refine ga rfl rfl rfl rfl ?_
      refine gr_nil (gk_then ?_)
      refine gc_seq ?_
      refine gc_seq (gc_seqr [(.mv, 0), (.mv, 1)] rfl ?_)
      refine gm rfl rfl rfl rfl ?_
      refine gr_rd rfl rfl rfl (rd_neq rfl rfl) ?_
      refine gr_nil (gk_then ?_)
      refine gc_cond rfl (fun hc3 => ?_) (fun hc3 => ?_)
      ·have hnx : (next s mk.1.author mk.1.draft).2 ≠ 0 := iN_t.1 hc3
       rw [madeGo_none (makeOp_bad hk0 hnx)] at hgo
       refine gc_exit ?_
       refine gk_exit_then ?_
       refine gk_exit_then ?_
       refine gk_here ?_
       refine gk_then ?_
       refine gc_seqr [(.mv, 0), (.mv, 1)] rfl ?_
       (first | refine gr_rd rfl rfl rfl (rd_add rfl rfl (IntWalk.i64_in _ (by omega))) ?_ | refine gr_rd rfl rfl rfl (rd_add rfl rfl rfl) ?_)
       refine gm rfl rfl rfl rfl ?_
       refine gr_nil ?_
       first
         | (refine gk_drop (L' := ((b13, .cells [v0, v1, v2, v3].toArray 48 (0, 0)) :: (C0 ++ (C1 ++ (C2 ++ (C3 ++ (Co ++ L))))))) sba ?_
            refine gk_round ⟨k + 1, s, ov, v0, v1, v2, v3, sv, sw, C0, C1, C2, C3, Co, (.slice Ao ov.length co)⟩ ?_ ⟨hH1, rfl, hS, hO, hov, by simp only; omega, by simp only; omega, by simp only; omega, by simp only; omega, hgo⟩ sbs
            show xs.length - (k + 1) < xs.length - k
            omega)
         | (refine gk_perm (L' := ([(b124, .cells (encOpV (o, .slice aq o.preds.length cq)).toArray 38 (0, 0)), (b7, .cells (encOpV (o, .slice aq o.preds.length cq)).toArray 38 (0, 0)), (b6, .cells (encMakeV mk).toArray 78 (0, 0))] ++ Cr) ++ ((b13, .cells [w0, w1, w2, w3].toArray 48 (0, 0)) :: (D0 ++ (D1 ++ (D2 ++ (D3 ++ (Co2 ++ L))))))) (by haveI : DecidableEq (Nat × Obj) := fun _ _ => Classical.propDecidable _; rw [List.perm_iff_count]; intro a; simp only [List.count_append, List.count_cons, List.count_nil]; ac_rfl) ?_
            refine gk_drop (L' := ((b13, .cells [w0, w1, w2, w3].toArray 48 (0, 0)) :: (D0 ++ (D1 ++ (D2 ++ (D3 ++ (Co2 ++ L))))))) (List.sublist_append_right _ _) ?_
            refine gk_round ⟨k + 1, (take s o).1, ov ++ [(o, .slice aq o.preds.length cq)], w0, w1, w2, w3, sv', sw', D0, D1, D2, D3, Co2, v125⟩ ?_ ⟨hH1, rfl, hS3, by simpa [encOpV] using hO2, ?_, by simp only; omega, by simp only; omega, by simp only [List.length_append, List.length_cons, List.length_nil]; omega, by simp only; omega, ?_⟩ sbs
            · show xs.length - (k + 1) < xs.length - k
              omega
            · intro p hp
              rcases List.mem_append.1 hp with hp | hp
              · exact hov p hp
              · rw [List.mem_singleton.1 hp]; exact ⟨hq, hfit⟩
            · simpa using hgo)
      ·have hnx : (next s mk.1.author mk.1.draft).2 = 0 := iN_f.1 hc3
       refine gc_skip ?_
       refine gk_then ?_
       refine gc_seqr [(.mv, 0), (.nm, 1)] rfl ?_
       refine gr_rd rfl rfl rfl (rd_loadA Tryd.ta38 rfl (Cells.own (l := encOp (next s mk.1.author mk.1.draft).1 pn) (T := 38) (z := (0, 0)) (by simp [baseL])) (Seg.all _) (encOp_length _ _)) ?_
       refine gr_nx0 rfl rfl (nx_store (vs := encOp (next s mk.1.author mk.1.draft).1 pn) Tryd.sizeOf38 rfl rfl rfl (encOp_length _ _) upd (by simp) (encOp_ones _ hCn.one)) ?_; rintro _ _ _ _ ⟨rfl, rfl, rfl⟩; refine ⟨trivial, ?_⟩
       rw [wr_all (by simp)]
       refine gr_nil ?_
       first
         | exact gk_cut (mk.1.op, mk.2) ⟨Gh.le_refl _, rfl, hmp, hmr.op, fun h => absurd h hk0, fun _ => rfl⟩ sbs
         | (refine gk_perm (L' := Cn ++ ((b8, .cells (encOp (next s mk.1.author mk.1.draft).1 pn).toArray 38 (0, 0)) :: (b7, .cells (encOp (next s mk.1.author mk.1.draft).1 pn).toArray 38 (0, 0)) :: (b6, .cells (encMakeV mk).toArray 78 (0, 0)) :: ((b13, .cells [v0, v1, v2, v3].toArray 48 (0, 0)) :: (C0 ++ (C1 ++ (C2 ++ (C3 ++ (Co ++ L)))))))) (by haveI : DecidableEq (Nat × Obj) := fun _ _ => Classical.propDecidable _; rw [List.perm_iff_count]; intro a; simp only [List.count_append, List.count_cons, List.count_nil]; ac_rfl) ?_
            refine gk_sealOw encId_length hCn rfl (by rw [next_ok hnx]; show (heads s).length < _; omega) (fun H2 hH2 hs => ?_)
            refine gk_drop (L' := (b7, .cells (encOp (next s mk.1.author mk.1.draft).1 pn).toArray 38 (0, 0)) :: (b6, .cells (encMakeV mk).toArray 78 (0, 0)) :: ((b13, .cells [v0, v1, v2, v3].toArray 48 (0, 0)) :: (C0 ++ (C1 ++ (C2 ++ (C3 ++ (Co ++ L))))))) (List.sublist_cons_self _ _) ?_
            exact gk_cut ((next s mk.1.author mk.1.draft).1, pn) ⟨hH2, rfl, hs, by rw [next_ok hnx]; exact ⟨hmr.draft, hmr.author, (wrap_range _).2⟩, fun _ => ⟨hnx, rfl⟩, fun h => absurd hk0 h⟩ sbs)
     ·have hk0 : mk.1.kind ≠ 0 := by simpa using hc2
      refine gc_skip ?_
      first
        | exact gk_cut (mk.1.op, mk.2) ⟨Gh.le_refl _, rfl, hmp, hmr.op, fun h => absurd h hk0, fun _ => rfl⟩ sbs
        | (refine gk_perm (L' := Cn ++ ((b8, .cells (encOp (next s mk.1.author mk.1.draft).1 pn).toArray 38 (0, 0)) :: (b7, .cells (encOp (next s mk.1.author mk.1.draft).1 pn).toArray 38 (0, 0)) :: (b6, .cells (encMakeV mk).toArray 78 (0, 0)) :: ((b13, .cells [v0, v1, v2, v3].toArray 48 (0, 0)) :: (C0 ++ (C1 ++ (C2 ++ (C3 ++ (Co ++ L)))))))) (by haveI : DecidableEq (Nat × Obj) := fun _ _ => Classical.propDecidable _; rw [List.perm_iff_count]; intro a; simp only [List.count_append, List.count_cons, List.count_nil]; ac_rfl) ?_
           refine gk_sealOw encId_length hCn rfl (by rw [next_ok hnx]; show (heads s).length < _; omega) (fun H2 hH2 hs => ?_)
           refine gk_drop (L' := (b7, .cells (encOp (next s mk.1.author mk.1.draft).1 pn).toArray 38 (0, 0)) :: (b6, .cells (encMakeV mk).toArray 78 (0, 0)) :: ((b13, .cells [v0, v1, v2, v3].toArray 48 (0, 0)) :: (C0 ++ (C1 ++ (C2 ++ (C3 ++ (Co ++ L))))))) (List.sublist_cons_self _ _) ?_
           exact gk_cut ((next s mk.1.author mk.1.draft).1, pn) ⟨hH2, rfl, hs, by rw [next_ok hnx]; exact ⟨hmr.draft, hmr.author, (wrap_range _).2⟩, fun _ => ⟨hnx, rfl⟩, fun h => absurd hk0 h⟩ sbs)
    ·rintro q H2 L2 ⟨hH12, rfl, hq, hrq, hk0, hkn⟩
     replace hS := hS.up hH12
     replace hov : ∀ p ∈ ov, Ids H2 [] p.2 p.1.preds ∧ FitO p.1 := fun p hp => ⟨(hov p hp).1.up hH12, (hov p hp).2⟩
     replace hmp := hmp.up hH12
     replace hH1 := Gh.le_trans hH1 hH12
     show GC _ _ _ _ [(3, pt b13 0), (4, (.slice Ao ov.length co)), (14, .slice A xs.length cv), (15, i64 xs.length), (16, i64 k), (6, pt b6 0), (7, pt b7 0)] H2 ((b7, .cells (encOpV q).toArray 38 (0, 0)) :: (b6, .cells (encMakeV mk).toArray 78 (0, 0)) :: ((b13, .cells [v0, v1, v2, v3].toArray 48 (0, 0)) :: (C0 ++ (C1 ++ (C2 ++ (C3 ++ (Co ++ L)))))))
     refine gc_cut (fun q : POp × Value => [(3, pt b13 0), (4, (.slice Ao ov.length co)), (14, .slice A xs.length cv), (15, i64 xs.length), (16, i64 k), (6, pt b6 0), (7, pt b7 0)]) (fun q H3 L3 => H2 ≤ H3 ∧ (b7, .cells (encOpV q).toArray 38 (0, 0)) :: (b6, .cells (encMakeV mk).toArray 78 (0, 0)) :: ((b13, .cells [v0, v1, v2, v3].toArray 48 (0, 0)) :: (C0 ++ (C1 ++ (C2 ++ (C3 ++ (Co ++ L)))))) = L3 ∧ Ids H3 [] q.2 q.1.preds ∧ RngO q.1 ∧ makeOp s (ov.map (·.1)) mk.1 = some q.1) ?_ ?_
     ·skip
      refine gc_seq (gc_seqr [(.mv, 0), (.mv, 1), (.mv, 2), (.mv, 3), (.mv, 4), (.mv, 5), (.mv, 6), (.mv, 7)] rfl ?_)
      refine gr_rd rfl rfl rfl (rd_fieldAddr Tryd.fa78_0 rfl) ?_
      refine gr_rd rfl rfl rfl (rd_load1 Tryd.to3 rfl (Cells.own (l := encMakeV mk) (T := 78) (z := (0, 0)) (by simp [baseL])) (encMakeV_0 _)) ?_
      refine gr_rd rfl rfl rfl (rd_eql rfl rfl) ?_
      refine gm rfl rfl rfl rfl ?_
      refine gr_split rfl (fun hg3 => ?_) (fun hg3 => ?_)
      ·skip
       refine gm rfl rfl rfl rfl ?_
       refine gr_rd rfl rfl rfl (rd_lenS Tryd.underlying25 rfl) ?_
       refine gr_rd rfl rfl rfl (rd_gtr rfl rfl) ?_
       (first | refine gpt rfl rfl rfl rfl rfl ?_ | refine gpf rfl rfl rfl rfl rfl ?_)
       refine gr_nil (gk_then ?_)
       refine gc_cond rfl (fun hc4 => ?_) (fun hc4 => ?_)
       ·have hk1 : mk.1.kind = 1 := by simpa using hg3
        have hpos : 0 < ov.length := by have := of_decide_eq_true hc4; omega
        have hp1 := pick_lt mk.1.at_ hpos
        have hp2 := pick_lt mk.1.other hpos
        obtain ⟨pa, hpa⟩ : ∃ pa, ov[pickAt mk.1.at_ ov.length]? = some pa := ⟨_, List.getElem?_eq_getElem hp1⟩
        obtain ⟨pb, hpb⟩ : ∃ pb, ov[pickAt mk.1.other ov.length]? = some pb := ⟨_, List.getElem?_eq_getElem hp2⟩
        obtain ⟨hpa1, hpa2⟩ := hov pa (List.mem_of_getElem? hpa)
        obtain ⟨hpb1, hpb2⟩ := hov pb (List.mem_of_getElem? hpb)
        have hOT : SlT encOpV 38 H2 ((b7, .cells (encOpV q).toArray 38 (0, 0)) :: (b6, .cells (encMakeV mk).toArray 78 (0, 0)) :: ((b13, .cells [v0, v1, v2, v3].toArray 48 (0, 0)) :: (C0 ++ (C1 ++ (C2 ++ (C3 ++ (Co ++ L))))))) (.slice Ao ov.length co) ov := Ow.slT encOpV_length hO rfl (by omega) (by intro x hx; simp [hx])
        obtain ⟨_, bo2, of2, co2, lo2, he2, hco2, hno2, ho0, ho1, ho2⟩ := hOT
        cases he2
        obtain ⟨hAo, hcA, hsA⟩ := slt_at (i := ((pickAt mk.1.at_ ov.length : Nat) : Int)) ho1 ho2 hpa rfl
        obtain ⟨_, hcB, hsB⟩ := slt_at (i := ((pickAt mk.1.other ov.length : Nat) : Int)) ho1 ho2 hpb rfl
        have hmo : makeOp s (ov.map (·.1)) mk.1 = some (byTwo mk.1 pa.1 pb.1) := by
          have e1 : (ov.map (·.1)).length = ov.length := by simp
          rw [makeOp_two hk1 (by rw [e1]; exact hpos), e1, getD_map hp1, getD_map hp2]
          rw [List.getElem?_eq_getElem hp1] at hpa
          rw [List.getElem?_eq_getElem hp2] at hpb
          rw [Option.some.inj hpa, Option.some.inj hpb]
        refine gc_cut (fun r : Nat × Nat => [(3, pt b13 0), (4, (.slice Ao ov.length co)), (14, .slice A xs.length cv), (15, i64 xs.length), (16, i64 k), (6, pt b6 0), (7, pt b7 0), (10, pt r.1 0), (11, pt r.2 0)]) (fun r H3 L3 => H2 = H3 ∧ (r.1, .cells (encOpV pa).toArray 38 (0, 0)) :: (r.2, .cells (encOpV pb).toArray 38 (0, 0)) :: (b7, .cells (encOpV q).toArray 38 (0, 0)) :: (b6, .cells (encMakeV mk).toArray 78 (0, 0)) :: ((b13, .cells [v0, v1, v2, v3].toArray 48 (0, 0)) :: (C0 ++ (C1 ++ (C2 ++ (C3 ++ (Co ++ L)))))) = L3) ?_ ?_
        ·skip
         refine gc_draw2 Tryd.mixed [(.mv, 0), (.mv, 1), (.mv, 2), (.mv, 3), (.mv, 4), (.mv, 5), (.mv, 6), (.mv, 7), (.mv, 8), (.mv, 9), (.mv, 10), (.mv, 11), (.mv, 12), (.mv, 13), (.mv, 14), (.mv, 15), (.mv, 16), (.mv, 17), (.mv, 18), (.mv, 19), (.mv, 20), (.mv, 21)] 22 23 [(.nm, 24), (.fin, 25)] (by decide +kernel) _ (List.Sublist.refl _) ?_ ?_
         ·skip
          show GR _ _ _ _ _ _ [(.mv, 0), (.mv, 1), (.mv, 2), (.mv, 3), (.mv, 4), (.mv, 5), (.mv, 6), (.mv, 7), (.mv, 8), (.mv, 9), (.mv, 10), (.mv, 11), (.mv, 12), (.mv, 13), (.mv, 14), (.mv, 15), (.mv, 16), (.mv, 17), (.mv, 18), (.mv, 19), (.mv, 20), (.mv, 21), (.nm, 22), (.nm, 23), (.nm, 24), (.fin, 25)] _ _
          refine gm rfl rfl rfl rfl ?_
          refine gr_rd rfl rfl rfl (rd_fieldAddr Tryd.fa78_3 rfl) ?_
          refine gr_rd rfl rfl rfl (rd_load1 Tryd.to3 rfl (Cells.own (l := encMakeV mk) (T := 78) (z := (0, 0)) (by simp [baseL])) (encMakeV_37 _)) ?_
          (first | refine gr_rd rfl rfl rfl (rd_convInt Tryd.underlying3 Tryd.underlying39 rfl (IntWalk.u64_in _ (by omega))) ?_ | refine gr_rd rfl rfl rfl (rd_convInt Tryd.underlying3 Tryd.underlying39 rfl rfl) ?_)
          refine gm rfl rfl rfl rfl ?_
          refine gr_rd rfl rfl rfl (rd_lenS Tryd.underlying25 rfl) ?_
          (first | refine gr_rd rfl rfl rfl (rd_convInt Tryd.underlying3 Tryd.underlying39 rfl (IntWalk.u64_in _ (by omega))) ?_ | refine gr_rd rfl rfl rfl (rd_convInt Tryd.underlying3 Tryd.underlying39 rfl rfl) ?_)
          refine gr_rd rfl rfl rfl (rd_rem rfl rfl (by omega) rfl) ?_
          refine gr_rd rfl rfl rfl (rd_convInt Tryd.underlying39 Tryd.underlying3 rfl (pick_wrap _ hpos (by omega))) ?_
          refine gr_rd rfl rfl rfl (rd_indexS Tryd.underlying25 Tryd.sizeOf38 rfl rfl hAo (by omega) (by omega)) ?_
          refine gr_rd rfl rfl rfl (rd_loadA Tryd.ta38 rfl hcA hsA (encOpV_length _)) ?_
          refine gm rfl rfl rfl rfl ?_
          refine gr_rd rfl rfl rfl (rd_fieldAddr Tryd.fa78_4 rfl) ?_
          refine gr_rd rfl rfl rfl (rd_load1 Tryd.to3 rfl (Cells.own (l := encMakeV mk) (T := 78) (z := (0, 0)) (by simp [baseL])) (encMakeV_38 _)) ?_
          (first | refine gr_rd rfl rfl rfl (rd_convInt Tryd.underlying3 Tryd.underlying39 rfl (IntWalk.u64_in _ (by omega))) ?_ | refine gr_rd rfl rfl rfl (rd_convInt Tryd.underlying3 Tryd.underlying39 rfl rfl) ?_)
          refine gm rfl rfl rfl rfl ?_
          refine gr_rd rfl rfl rfl (rd_lenS Tryd.underlying25 rfl) ?_
          (first | refine gr_rd rfl rfl rfl (rd_convInt Tryd.underlying3 Tryd.underlying39 rfl (IntWalk.u64_in _ (by omega))) ?_ | refine gr_rd rfl rfl rfl (rd_convInt Tryd.underlying3 Tryd.underlying39 rfl rfl) ?_)
          refine gr_rd rfl rfl rfl (rd_rem rfl rfl (by omega) rfl) ?_
          refine gr_rd rfl rfl rfl (rd_convInt Tryd.underlying39 Tryd.underlying3 rfl (pick_wrap _ hpos (by omega))) ?_
          refine gr_rd rfl rfl rfl (rd_indexS Tryd.underlying25 Tryd.sizeOf38 rfl rfl hAo (by omega) (by omega)) ?_
          refine gr_rd rfl rfl rfl (rd_loadA Tryd.ta38 rfl hcB hsB (encOpV_length _)) ?_
          refine gr_nx rfl rfl rfl (nx_alloc Tryd.zeroValue38 rfl) ?_; rintro _ _ _ _ ⟨b10, rfl, rfl, rfl⟩; refine ⟨kp, ?_⟩
          refine gr_nx rfl rfl rfl (nx_alloc Tryd.zeroValue38 rfl) ?_; rintro _ _ _ _ ⟨b11, rfl, rfl, rfl⟩; refine ⟨kp, ?_⟩
          refine gr_nx0 rfl rfl (nx_store (vs := encOpV pa) Tryd.sizeOf38 rfl rfl rfl (encOpV_length _) upd (by simp) (encOp_ones _ hpa1.one)) ?_; rintro _ _ _ _ ⟨rfl, rfl, rfl⟩; refine ⟨kp, ?_⟩
          rw [wr_all (by simp)]
          refine gr_fin0 rfl rfl (nx_store (vs := encOpV pb) Tryd.sizeOf38 rfl rfl rfl (encOpV_length _) upd (by simp) (encOp_ones _ hpb1.one)) ?_; rintro _ _ _ _ ⟨rfl, rfl, rfl⟩
          rw [wr_all (by simp)]
          refine gr_nil ?_
          first | exact gk_cut (b10, b11) ⟨rfl, rfl⟩ sbs | exact gk_perm (List.Perm.swap _ _ _) (gk_cut (b10, b11) ⟨rfl, rfl⟩ sbs)
         ·skip
          show GR _ _ _ _ _ _ [(.mv, 0), (.mv, 1), (.mv, 2), (.mv, 3), (.mv, 4), (.mv, 5), (.mv, 6), (.mv, 7), (.mv, 8), (.mv, 9), (.mv, 10), (.mv, 11), (.mv, 12), (.mv, 13), (.mv, 14), (.mv, 15), (.mv, 16), (.mv, 17), (.mv, 18), (.mv, 19), (.mv, 20), (.mv, 21), (.nm, 23), (.nm, 22), (.nm, 24), (.fin, 25)] _ _
          refine gm rfl rfl rfl rfl ?_
          refine gr_rd rfl rfl rfl (rd_fieldAddr Tryd.fa78_3 rfl) ?_
          refine gr_rd rfl rfl rfl (rd_load1 Tryd.to3 rfl (Cells.own (l := encMakeV mk) (T := 78) (z := (0, 0)) (by simp [baseL])) (encMakeV_37 _)) ?_
          (first | refine gr_rd rfl rfl rfl (rd_convInt Tryd.underlying3 Tryd.underlying39 rfl (IntWalk.u64_in _ (by omega))) ?_ | refine gr_rd rfl rfl rfl (rd_convInt Tryd.underlying3 Tryd.underlying39 rfl rfl) ?_)
          refine gm rfl rfl rfl rfl ?_
          refine gr_rd rfl rfl rfl (rd_lenS Tryd.underlying25 rfl) ?_
          (first | refine gr_rd rfl rfl rfl (rd_convInt Tryd.underlying3 Tryd.underlying39 rfl (IntWalk.u64_in _ (by omega))) ?_ | refine gr_rd rfl rfl rfl (rd_convInt Tryd.underlying3 Tryd.underlying39 rfl rfl) ?_)
          refine gr_rd rfl rfl rfl (rd_rem rfl rfl (by omega) rfl) ?_
          refine gr_rd rfl rfl rfl (rd_convInt Tryd.underlying39 Tryd.underlying3 rfl (pick_wrap _ hpos (by omega))) ?_
          refine gr_rd rfl rfl rfl (rd_indexS Tryd.underlying25 Tryd.sizeOf38 rfl rfl hAo (by omega) (by omega)) ?_
          refine gr_rd rfl rfl rfl (rd_loadA Tryd.ta38 rfl hcA hsA (encOpV_length _)) ?_
          refine gm rfl rfl rfl rfl ?_
          refine gr_rd rfl rfl rfl (rd_fieldAddr Tryd.fa78_4 rfl) ?_
          refine gr_rd rfl rfl rfl (rd_load1 Tryd.to3 rfl (Cells.own (l := encMakeV mk) (T := 78) (z := (0, 0)) (by simp [baseL])) (encMakeV_38 _)) ?_
          (first | refine gr_rd rfl rfl rfl (rd_convInt Tryd.underlying3 Tryd.underlying39 rfl (IntWalk.u64_in _ (by omega))) ?_ | refine gr_rd rfl rfl rfl (rd_convInt Tryd.underlying3 Tryd.underlying39 rfl rfl) ?_)
          refine gm rfl rfl rfl rfl ?_
          refine gr_rd rfl rfl rfl (rd_lenS Tryd.underlying25 rfl) ?_
          (first | refine gr_rd rfl rfl rfl (rd_convInt Tryd.underlying3 Tryd.underlying39 rfl (IntWalk.u64_in _ (by omega))) ?_ | refine gr_rd rfl rfl rfl (rd_convInt Tryd.underlying3 Tryd.underlying39 rfl rfl) ?_)
          refine gr_rd rfl rfl rfl (rd_rem rfl rfl (by omega) rfl) ?_
          refine gr_rd rfl rfl rfl (rd_convInt Tryd.underlying39 Tryd.underlying3 rfl (pick_wrap _ hpos (by omega))) ?_
          refine gr_rd rfl rfl rfl (rd_indexS Tryd.underlying25 Tryd.sizeOf38 rfl rfl hAo (by omega) (by omega)) ?_
          refine gr_rd rfl rfl rfl (rd_loadA Tryd.ta38 rfl hcB hsB (encOpV_length _)) ?_
          refine gr_nx rfl rfl rfl (nx_alloc Tryd.zeroValue38 rfl) ?_; rintro _ _ _ _ ⟨b11, rfl, rfl, rfl⟩; refine ⟨kp, ?_⟩
          refine gr_nx rfl rfl rfl (nx_alloc Tryd.zeroValue38 rfl) ?_; rintro _ _ _ _ ⟨b10, rfl, rfl, rfl⟩; refine ⟨kp, ?_⟩
          refine gr_nx0 rfl rfl (nx_store (vs := encOpV pa) Tryd.sizeOf38 rfl rfl rfl (encOpV_length _) upd (by simp) (encOp_ones _ hpa1.one)) ?_; rintro _ _ _ _ ⟨rfl, rfl, rfl⟩; refine ⟨kp, ?_⟩
          rw [wr_all (by simp)]
          refine gr_fin0 rfl rfl (nx_store (vs := encOpV pb) Tryd.sizeOf38 rfl rfl rfl (encOpV_length _) upd (by simp) (encOp_ones _ hpb1.one)) ?_; rintro _ _ _ _ ⟨rfl, rfl, rfl⟩
          rw [wr_all (by simp)]
          refine gr_nil ?_
          first | exact gk_cut (b10, b11) ⟨rfl, rfl⟩ sbs | exact gk_perm (List.Perm.swap _ _ _) (gk_cut (b10, b11) ⟨rfl, rfl⟩ sbs)
        ·rintro ⟨b10, b11⟩ H3 L3 ⟨rfl, rfl⟩
         show GC _ _ _ _ [(3, pt b13 0), (4, (.slice Ao ov.length co)), (14, .slice A xs.length cv), (15, i64 xs.length), (16, i64 k), (6, pt b6 0), (7, pt b7 0), (10, pt b10 0), (11, pt b11 0)] H2 ((b10, .cells (encOpV pa).toArray 38 (0, 0)) :: (b11, .cells (encOpV pb).toArray 38 (0, 0)) :: (b7, .cells (encOpV q).toArray 38 (0, 0)) :: (b6, .cells (encMakeV mk).toArray 78 (0, 0)) :: ((b13, .cells [v0, v1, v2, v3].toArray 48 (0, 0)) :: (C0 ++ (C1 ++ (C2 ++ (C3 ++ (Co ++ L)))))))
         refine gc_seq ?_
         refine gc_draw Tryd.mixed [(.mv, 0), (.mv, 1), (.mv, 2), (.mv, 3), (.mv, 4), (.nm, 5), (.nm, 6), (.nm, 7), (.mv, 8), (.fin, 9)] (by decide +kernel) _ (List.Sublist.refl _) ?_
         refine gr_rd rfl rfl rfl (rd_fieldAddr Tryd.fa78_2 rfl) ?_
         refine gr_rd rfl rfl rfl (rd_loadA Tryd.ta36 rfl (Cells.own (l := encMakeV mk) (T := 78) (z := (0, 0)) (by simp [baseL])) (encMakeV_seg_draft mk) (encDraft_length _)) ?_
         refine gr_rd rfl rfl rfl (rd_fieldAddr Tryd.fa78_1 rfl) ?_
         refine gr_rd rfl rfl rfl (rd_load1 Tryd.to3 rfl (Cells.own (l := encMakeV mk) (T := 78) (z := (0, 0)) (by simp [baseL])) (encMakeV_1 _)) ?_
         refine gr_rd rfl rfl rfl (rd_loadA Tryd.ta38 rfl (Cells.own (l := encOpV pa) (T := 38) (z := (0, 0)) (by simp [baseL])) (Seg.all _) (encOpV_length _)) ?_
         refine gr_nx rfl rfl rfl (nx_call Tryd.en16 rfl (rname_cc _ _ pa.1 pa.2 hpa1.any hpa2.small)) ?_; rintro v75 H' L' hle ⟨rfl, rfl, rfl⟩; refine ⟨kp, ?_⟩
         refine gr_nx rfl rfl rfl (nx_sliceA1 Tryd.underlying29 Tryd.sizeOf34 Tryd.zeroValue34 rfl rfl rfl lnk rfl) ?_; rintro _ _ _ _ ⟨b76, rfl, rfl, rfl⟩; refine ⟨kp, ?_⟩
         refine gr_nx rfl rfl rfl (nx_call Tryd.en41 rfl (rising_cc _ _ _ [nameOf pa.1] (Ow.slT (xs := [nameOf pa.1]) encId_length (by simpa using Ow.new (b := b76) (e := 34) (k := 32) (n := 1) (cs := encId (nameOf pa.1)) (by simp)) rfl (by simp) (fun x hx => List.mem_cons.2 (.inl (List.mem_singleton.1 hx)))) (by simp))) ?_; rintro v77 H' L' hle ⟨C7, hO7, rfl, rfl⟩; refine ⟨kp, ?_⟩
         obtain ⟨a7, c7, rfl, hc7⟩ := hO7.slice
         refine gr_rd rfl rfl rfl (rd_build Tryd.bt38 (ps := [(0, ag (encDraft mk.1.draft)), (1, i64 mk.1.author), (3, (.slice a7 (rising [nameOf pa.1]).length c7))]) rfl (fill_op3 (ps := rising [nameOf pa.1]) rfl)) ?_
         refine gr_fin0 rfl rfl (nx_store (vs := encOp ⟨mk.1.draft, mk.1.author, 0, rising [nameOf pa.1]⟩ (.slice a7 (rising [nameOf pa.1]).length c7)) Tryd.sizeOf38 rfl rfl rfl (encOp_length _ _) upd (by simp) (encOp_ones _ rfl)) ?_; rintro _ _ _ _ ⟨rfl, rfl, rfl⟩
         rw [wr_all (by simp)]
         refine gr_perm (L' := [(b76, .cells (encId (nameOf pa.1)).toArray 34 (0, 0))] ++ ((b7, .cells (encOp ⟨mk.1.draft, mk.1.author, 0, rising [nameOf pa.1]⟩ (.slice a7 (rising [nameOf pa.1]).length c7)).toArray 38 (0, 0)) :: (b10, .cells (encOpV pa).toArray 38 (0, 0)) :: (b11, .cells (encOpV pb).toArray 38 (0, 0)) :: (C7 ++ ((b6, .cells (encMakeV mk).toArray 78 (0, 0)) :: ((b13, .cells [v0, v1, v2, v3].toArray 48 (0, 0)) :: (C0 ++ (C1 ++ (C2 ++ (C3 ++ (Co ++ L)))))))))) (by haveI : DecidableEq (Nat × Obj) := fun _ _ => Classical.propDecidable _; rw [List.perm_iff_count]; intro a; simp only [List.count_append, List.count_cons, List.count_nil]; ac_rfl) ?_
         refine gr_drop (L' := (b7, .cells (encOp ⟨mk.1.draft, mk.1.author, 0, rising [nameOf pa.1]⟩ (.slice a7 (rising [nameOf pa.1]).length c7)).toArray 38 (0, 0)) :: (b10, .cells (encOpV pa).toArray 38 (0, 0)) :: (b11, .cells (encOpV pb).toArray 38 (0, 0)) :: (C7 ++ ((b6, .cells (encMakeV mk).toArray 78 (0, 0)) :: ((b13, .cells [v0, v1, v2, v3].toArray 48 (0, 0)) :: (C0 ++ (C1 ++ (C2 ++ (C3 ++ (Co ++ L))))))))) (List.sublist_append_right _ _) ?_
         refine gr_nil (gk_then ?_)
         refine gc_cut (fun r : List Nm × Value × Chunks => [(3, pt b13 0), (4, (.slice Ao ov.length co)), (14, .slice A xs.length cv), (15, i64 xs.length), (16, i64 k), (6, pt b6 0), (7, pt b7 0), (10, pt b10 0), (11, pt b11 0)]) (fun r H3 L3 => H2 = H3 ∧ (b7, .cells (encOp ⟨mk.1.draft, mk.1.author, 0, r.1⟩ r.2.1).toArray 38 (0, 0)) :: (b10, .cells (encOpV pa).toArray 38 (0, 0)) :: (b11, .cells (encOpV pb).toArray 38 (0, 0)) :: (r.2.2 ++ ((b6, .cells (encMakeV mk).toArray 78 (0, 0)) :: ((b13, .cells [v0, v1, v2, v3].toArray 48 (0, 0)) :: (C0 ++ (C1 ++ (C2 ++ (C3 ++ (Co ++ L)))))))) = L3 ∧ Ow 34 32 r.2.2 r.2.1 r.1.length (r.1.flatMap encId) ∧ r.1 = (if pa.1 = pb.1 then rising [nameOf pa.1] else rising [nameOf pa.1, nameOf pb.1]) ∧ r.1.length ≤ 2) ?_ ?_
         ·skip
          refine gc_seq (gc_seqr [(.mv, 0), (.mv, 1), (.nm, 2), (.mv, 3)] rfl ?_)
          refine gr_rd rfl rfl rfl (rd_loadA Tryd.ta38 rfl (Cells.own (l := encOpV pa) (T := 38) (z := (0, 0)) (by simp [baseL])) (Seg.all _) (encOpV_length _)) ?_
          refine gr_rd rfl rfl rfl (rd_loadA Tryd.ta38 rfl (Cells.own (l := encOpV pb) (T := 38) (z := (0, 0)) (by simp [baseL])) (Seg.all _) (encOpV_length _)) ?_
          refine gr_nx rfl rfl rfl (nx_call Tryd.en20 rfl (same_cc _ _ pa.1 pb.1 pa.2 pb.2 hpa1.any hpb1.any)) ?_; rintro v81 H' L' hle ⟨rfl, rfl, rfl⟩; refine ⟨trivial, ?_⟩
          refine gr_rd rfl rfl rfl (rd_not rfl) ?_
          refine gr_nil (gk_then ?_)
          refine gc_cond rfl (fun hcR15 => ?_) (fun hcR15 => ?_)
          ·skip
           refine gc_draw Tryd.mixed [(.mv, 0), (.mv, 2), (.nm, 1), (.fin, 3), (.fin, 4), (.fin, 5), (.fin, 6), (.fin, 7)] (by decide +kernel) _ (List.Sublist.refl _) ?_
           refine gr_rd rfl rfl rfl (rd_loadA Tryd.ta38 rfl (Cells.own (l := encOpV pa) (T := 38) (z := (0, 0)) (by simp [baseL])) (Seg.all _) (encOpV_length _)) ?_
           refine gr_rd rfl rfl rfl (rd_loadA Tryd.ta38 rfl (Cells.own (l := encOpV pb) (T := 38) (z := (0, 0)) (by simp [baseL])) (Seg.all _) (encOpV_length _)) ?_
           refine gr_nx rfl rfl rfl (nx_call Tryd.en16 rfl (rname_cc _ _ pa.1 pa.2 hpa1.any hpa2.small)) ?_; rintro v84 H' L' hle ⟨rfl, rfl, rfl⟩; refine ⟨kp, ?_⟩
           refine gr_fin rfl rfl rfl (nx_call Tryd.en16 rfl (rname_cc _ _ pb.1 pb.2 hpb1.any hpb2.small)) ?_; rintro v86 H' L' hle ⟨rfl, rfl, rfl⟩
           refine gr_fin rfl rfl rfl (nx_sliceA2 Tryd.underlying29 Tryd.sizeOf34 Tryd.zeroValue34 rfl rfl rfl lnk lnk rfl) ?_; rintro _ _ _ _ ⟨b87, rfl, rfl, rfl⟩
           refine gr_fin rfl rfl rfl (nx_call Tryd.en41 rfl (rising_cc _ _ _ [nameOf pa.1, nameOf pb.1] (Ow.slT (xs := [nameOf pa.1, nameOf pb.1]) encId_length (by simpa using Ow.new (b := b87) (e := 34) (k := 32) (n := 2) (cs := encId (nameOf pa.1) ++ encId (nameOf pb.1)) (by simp)) rfl (by simp) (fun x hx => List.mem_cons.2 (.inl (List.mem_singleton.1 hx)))) (by simp))) ?_; rintro v88 H' L' hle ⟨C8, hO8, rfl, rfl⟩
           refine gr_fin rfl rfl rfl (Rd.nx (rd_fieldAddr Tryd.fa38_3 rfl)) ?_; rintro _ _ _ _ ⟨rfl, rfl, rfl⟩
           refine gr_fin0 rfl rfl (nx_store (vs := [v88]) Tryd.sizeOf29 rfl rfl (cells1 (Ow.one hO8)) rfl upd (by simp) (oneCells_cons (Ow.one hO8) oneCells_nil)) ?_; rintro _ _ _ _ ⟨rfl, rfl, rfl⟩
           rw [encOp_set_preds _ _ _ (rising [nameOf pa.1, nameOf pb.1])]
           refine gr_nil ?_
           first
             | exact gk_cut (rising [nameOf pa.1], (.slice a7 (rising [nameOf pa.1]).length c7), C7) ⟨rfl, rfl, hO7, by rw [if_pos (by simpa using hcR15)], by rw [rising_length]; show 1 ≤ 2; decide⟩ sbs
             | (refine gk_perm (L' := ([(b87, .cells (encId (nameOf pa.1) ++ encId (nameOf pb.1)).toArray 34 (0, 0))] ++ C7) ++ ((b7, .cells (encOp ⟨mk.1.draft, mk.1.author, 0, rising [nameOf pa.1, nameOf pb.1]⟩ v88).toArray 38 (0, 0)) :: (b10, .cells (encOpV pa).toArray 38 (0, 0)) :: (b11, .cells (encOpV pb).toArray 38 (0, 0)) :: (C8 ++ ((b6, .cells (encMakeV mk).toArray 78 (0, 0)) :: ((b13, .cells [v0, v1, v2, v3].toArray 48 (0, 0)) :: (C0 ++ (C1 ++ (C2 ++ (C3 ++ (Co ++ L)))))))))) (by haveI : DecidableEq (Nat × Obj) := fun _ _ => Classical.propDecidable _; rw [List.perm_iff_count]; intro a; simp only [List.count_append, List.count_cons, List.count_nil]; ac_rfl) ?_
                refine gk_drop (L' := (b7, .cells (encOp ⟨mk.1.draft, mk.1.author, 0, rising [nameOf pa.1, nameOf pb.1]⟩ v88).toArray 38 (0, 0)) :: (b10, .cells (encOpV pa).toArray 38 (0, 0)) :: (b11, .cells (encOpV pb).toArray 38 (0, 0)) :: (C8 ++ ((b6, .cells (encMakeV mk).toArray 78 (0, 0)) :: ((b13, .cells [v0, v1, v2, v3].toArray 48 (0, 0)) :: (C0 ++ (C1 ++ (C2 ++ (C3 ++ (Co ++ L))))))))) (List.sublist_append_right _ _) ?_
                exact gk_cut (rising [nameOf pa.1, nameOf pb.1], v88, C8) ⟨rfl, rfl, hO8, by rw [if_neg (by simpa using hcR15)], Nat.le_of_eq (rising_len2 _ _)⟩ sbs)
          ·skip
           refine gc_skip ?_
           first
             | exact gk_cut (rising [nameOf pa.1], (.slice a7 (rising [nameOf pa.1]).length c7), C7) ⟨rfl, rfl, hO7, by rw [if_pos (by simpa using hcR15)], by rw [rising_length]; show 1 ≤ 2; decide⟩ sbs
             | (refine gk_perm (L' := ([(b87, .cells (encId (nameOf pa.1) ++ encId (nameOf pb.1)).toArray 34 (0, 0))] ++ C7) ++ ((b7, .cells (encOp ⟨mk.1.draft, mk.1.author, 0, rising [nameOf pa.1, nameOf pb.1]⟩ v88).toArray 38 (0, 0)) :: (b10, .cells (encOpV pa).toArray 38 (0, 0)) :: (b11, .cells (encOpV pb).toArray 38 (0, 0)) :: (C8 ++ ((b6, .cells (encMakeV mk).toArray 78 (0, 0)) :: ((b13, .cells [v0, v1, v2, v3].toArray 48 (0, 0)) :: (C0 ++ (C1 ++ (C2 ++ (C3 ++ (Co ++ L)))))))))) (by haveI : DecidableEq (Nat × Obj) := fun _ _ => Classical.propDecidable _; rw [List.perm_iff_count]; intro a; simp only [List.count_append, List.count_cons, List.count_nil]; ac_rfl) ?_
                refine gk_drop (L' := (b7, .cells (encOp ⟨mk.1.draft, mk.1.author, 0, rising [nameOf pa.1, nameOf pb.1]⟩ v88).toArray 38 (0, 0)) :: (b10, .cells (encOpV pa).toArray 38 (0, 0)) :: (b11, .cells (encOpV pb).toArray 38 (0, 0)) :: (C8 ++ ((b6, .cells (encMakeV mk).toArray 78 (0, 0)) :: ((b13, .cells [v0, v1, v2, v3].toArray 48 (0, 0)) :: (C0 ++ (C1 ++ (C2 ++ (C3 ++ (Co ++ L))))))))) (List.sublist_append_right _ _) ?_
                exact gk_cut (rising [nameOf pa.1, nameOf pb.1], v88, C8) ⟨rfl, rfl, hO8, by rw [if_neg (by simpa using hcR15)], Nat.le_of_eq (rising_len2 _ _)⟩ sbs)
         ·rintro ⟨ps, pv, Cp⟩ H3 L3 ⟨rfl, rfl, hOp, hps, hpl⟩
          simp only at hOp hps hpl
          show GC _ _ _ _ [(3, pt b13 0), (4, (.slice Ao ov.length co)), (14, .slice A xs.length cv), (15, i64 xs.length), (16, i64 k), (6, pt b6 0), (7, pt b7 0), (10, pt b10 0), (11, pt b11 0)] H2 ((b7, .cells (encOp ⟨mk.1.draft, mk.1.author, 0, ps⟩ pv).toArray 38 (0, 0)) :: (b10, .cells (encOpV pa).toArray 38 (0, 0)) :: (b11, .cells (encOpV pb).toArray 38 (0, 0)) :: (Cp ++ ((b6, .cells (encMakeV mk).toArray 78 (0, 0)) :: ((b13, .cells [v0, v1, v2, v3].toArray 48 (0, 0)) :: (C0 ++ (C1 ++ (C2 ++ (C3 ++ (Co ++ L)))))))))
          refine gc_seqr [(.mv, 0), (.mv, 1), (.mv, 2), (.mv, 3), (.mv, 4), (.mv, 5), (.mv, 6), (.mv, 7), (.mv, 8), (.mv, 9), (.mv, 10), (.nm, 11)] rfl ?_
          refine gr_rd rfl rfl rfl (rd_fieldAddr Tryd.fa38_2 rfl) ?_
          refine gr_rd rfl rfl rfl (rd_load1 Tryd.to3 rfl (Cells.own (l := encOpV pa) (T := 38) (z := (0, 0)) (by simp [baseL])) (v := i64 pa.1.depth) (encOp_36 _ _)) ?_
          refine gr_rd rfl rfl rfl (rd_fieldAddr Tryd.fa38_2 rfl) ?_
          refine gr_rd rfl rfl rfl (rd_load1 Tryd.to3 rfl (Cells.own (l := encOpV pb) (T := 38) (z := (0, 0)) (by simp [baseL])) (v := i64 pb.1.depth) (encOp_36 _ _)) ?_
          refine gr_rd rfl rfl rfl (rd_max2 rfl rfl (imax_eq _ _)) ?_
          refine gr_rd rfl rfl rfl (rd_add rfl rfl (IntKind.wrap_i64 _)) ?_
          refine gr_rd rfl rfl rfl (rd_fieldAddr Tryd.fa78_5 rfl) ?_
          refine gr_rd rfl rfl rfl (rd_load1 Tryd.to3 rfl (Cells.own (l := encMakeV mk) (T := 78) (z := (0, 0)) (by simp [baseL])) (encMakeV_39 _)) ?_
          refine gr_rd rfl rfl rfl (rd_rem rfl rfl (by omega) rfl) ?_
          refine gr_rd rfl rfl rfl (rd_add rfl rfl (IntKind.wrap_i64 _)) ?_
          refine gr_rd rfl rfl rfl (rd_fieldAddr Tryd.fa38_2 rfl) ?_
          refine gr_nx0 rfl rfl (nx_store (vs := [i64 (wrap (wrap (1 + max pa.1.depth pb.1.depth) + mk.1.deep.tmod 3))]) Tryd.sizeOf3 rfl rfl rfl (rfl) upd (by simp) (oneCells_of_all rfl)) ?_; rintro _ _ _ _ ⟨rfl, rfl, rfl⟩; refine ⟨trivial, ?_⟩
          rw [encOp_set_depth]
          refine gr_nil ?_
          first
            | exact gk_cut q ⟨Gh.le_refl _, rfl, hq, hrq, hmo⟩ sbs
            | (refine gk_perm (L' := Cp ++ ((b7, .cells (encOpV (byTwo mk.1 pa.1 pb.1, pv)).toArray 38 (0, 0)) :: (b10, .cells (encOpV pa).toArray 38 (0, 0)) :: (b11, .cells (encOpV pb).toArray 38 (0, 0)) :: (b6, .cells (encMakeV mk).toArray 78 (0, 0)) :: ((b13, .cells [v0, v1, v2, v3].toArray 48 (0, 0)) :: (C0 ++ (C1 ++ (C2 ++ (C3 ++ (Co ++ L)))))))) (by haveI : DecidableEq (Nat × Obj) := fun _ _ => Classical.propDecidable _; rw [List.perm_iff_count]; intro a; simp only [List.count_append, List.count_cons, List.count_nil]; ac_rfl) ?_
               refine gk_sealOw encId_length hOp rfl (by omega) (fun H3 hH3 hs => ?_)
               refine gk_drop (L' := (b7, .cells (encOpV (byTwo mk.1 pa.1 pb.1, pv)).toArray 38 (0, 0)) :: (b6, .cells (encMakeV mk).toArray 78 (0, 0)) :: ((b13, .cells [v0, v1, v2, v3].toArray 48 (0, 0)) :: (C0 ++ (C1 ++ (C2 ++ (C3 ++ (Co ++ L))))))) sba ?_
               exact gk_cut (byTwo mk.1 pa.1 pb.1, pv) ⟨hH3, rfl, by rw [hps] at hs; exact hs, ⟨hmr.draft, hmr.author, (wrap_range _).2⟩, hmo⟩ sbs)
       ·have hmo : makeOp s (ov.map (·.1)) mk.1 = some q.1 := by
          by_cases h0 : mk.1.kind = 0
          · obtain ⟨h1, h2⟩ := hk0 h0
            rw [makeOp_next h0 h1, h2]
          · rw [makeOp_self h0 ?_, hkn h0]
            first
              | (rintro ⟨h1, _⟩; simp [h1] at hg3; done)
              | (rintro ⟨_, h1⟩; have := of_decide_eq_false hc4; simp at h1; omega)
        refine gc_skip ?_
        first
          | exact gk_cut q ⟨Gh.le_refl _, rfl, hq, hrq, hmo⟩ sbs
          | (refine gk_perm (L' := Cp ++ ((b7, .cells (encOpV (byTwo mk.1 pa.1 pb.1, pv)).toArray 38 (0, 0)) :: (b10, .cells (encOpV pa).toArray 38 (0, 0)) :: (b11, .cells (encOpV pb).toArray 38 (0, 0)) :: (b6, .cells (encMakeV mk).toArray 78 (0, 0)) :: ((b13, .cells [v0, v1, v2, v3].toArray 48 (0, 0)) :: (C0 ++ (C1 ++ (C2 ++ (C3 ++ (Co ++ L)))))))) (by haveI : DecidableEq (Nat × Obj) := fun _ _ => Classical.propDecidable _; rw [List.perm_iff_count]; intro a; simp only [List.count_append, List.count_cons, List.count_nil]; ac_rfl) ?_
             refine gk_sealOw encId_length hOp rfl (by omega) (fun H3 hH3 hs => ?_)
             refine gk_drop (L' := (b7, .cells (encOpV (byTwo mk.1 pa.1 pb.1, pv)).toArray 38 (0, 0)) :: (b6, .cells (encMakeV mk).toArray 78 (0, 0)) :: ((b13, .cells [v0, v1, v2, v3].toArray 48 (0, 0)) :: (C0 ++ (C1 ++ (C2 ++ (C3 ++ (Co ++ L))))))) sba ?_
             exact gk_cut (byTwo mk.1 pa.1 pb.1, pv) ⟨hH3, rfl, by rw [hps] at hs; exact hs, ⟨hmr.draft, hmr.author, (wrap_range _).2⟩, hmo⟩ sbs)
      ·skip
       refine gr_no rfl rfl rfl ?_
       refine gr_no rfl rfl rfl ?_
       refine gr_no rfl rfl rfl ?_
       (first | refine gpt rfl rfl rfl rfl rfl ?_ | refine gpf rfl rfl rfl rfl rfl ?_)
       refine gr_nil (gk_then ?_)
       refine gc_no rfl ?_
       have hmo : makeOp s (ov.map (·.1)) mk.1 = some q.1 := by
         by_cases h0 : mk.1.kind = 0
         · obtain ⟨h1, h2⟩ := hk0 h0
           rw [makeOp_next h0 h1, h2]
         · rw [makeOp_self h0 ?_, hkn h0]
           first
             | (rintro ⟨h1, _⟩; simp [h1] at hg3; done)
             | (rintro ⟨_, h1⟩; have := of_decide_eq_false hc4; simp at h1; omega)
       refine gc_skip ?_
       first
         | exact gk_cut q ⟨Gh.le_refl _, rfl, hq, hrq, hmo⟩ sbs
         | (refine gk_perm (L' := Cp ++ ((b7, .cells (encOpV (byTwo mk.1 pa.1 pb.1, pv)).toArray 38 (0, 0)) :: (b10, .cells (encOpV pa).toArray 38 (0, 0)) :: (b11, .cells (encOpV pb).toArray 38 (0, 0)) :: (b6, .cells (encMakeV mk).toArray 78 (0, 0)) :: ((b13, .cells [v0, v1, v2, v3].toArray 48 (0, 0)) :: (C0 ++ (C1 ++ (C2 ++ (C3 ++ (Co ++ L)))))))) (by haveI : DecidableEq (Nat × Obj) := fun _ _ => Classical.propDecidable _; rw [List.perm_iff_count]; intro a; simp only [List.count_append, List.count_cons, List.count_nil]; ac_rfl) ?_
            refine gk_sealOw encId_length hOp rfl (by omega) (fun H3 hH3 hs => ?_)
            refine gk_drop (L' := (b7, .cells (encOpV (byTwo mk.1 pa.1 pb.1, pv)).toArray 38 (0, 0)) :: (b6, .cells (encMakeV mk).toArray 78 (0, 0)) :: ((b13, .cells [v0, v1, v2, v3].toArray 48 (0, 0)) :: (C0 ++ (C1 ++ (C2 ++ (C3 ++ (Co ++ L))))))) sba ?_
            exact gk_cut (byTwo mk.1 pa.1 pb.1, pv) ⟨hH3, rfl, by rw [hps] at hs; exact hs, ⟨hmr.draft, hmr.author, (wrap_range _).2⟩, hmo⟩ sbs)
     ·rintro ⟨o, po⟩ H3 L3 ⟨hH23, rfl, hq, hrq, hmo⟩
      simp only at hq hrq hmo
      replace hS := hS.up hH23
      replace hov : ∀ p ∈ ov, Ids H3 [] p.2 p.1.preds ∧ FitO p.1 := fun p hp => ⟨(hov p hp).1.up hH23, (hov p hp).2⟩
      replace hmp := hmp.up hH23
      replace hH1 := Gh.le_trans hH1 hH23
      obtain ⟨aq, cq, rfl⟩ : ∃ aq cq, po = .slice aq o.preds.length cq := by
        obtain ⟨a, b, off, cap, l, h, _⟩ := hq
        exact ⟨a, cap, h⟩
      show GC _ _ _ _ [(3, pt b13 0), (4, (.slice Ao ov.length co)), (14, .slice A xs.length cv), (15, i64 xs.length), (16, i64 k), (6, pt b6 0), (7, pt b7 0)] H3 ((b7, .cells (encOpV (o, .slice aq o.preds.length cq)).toArray 38 (0, 0)) :: (b6, .cells (encMakeV mk).toArray 78 (0, 0)) :: ((b13, .cells [v0, v1, v2, v3].toArray 48 (0, 0)) :: (C0 ++ (C1 ++ (C2 ++ (C3 ++ (Co ++ L)))))))
      refine gc_seq ?_
      refine gc_seq (gc_seqr [(.mv, 0), (.mv, 1), (.mv, 2), (.mv, 3), (.mv, 4), (.mv, 5), (.mv, 6), (.mv, 7), (.mv, 8), (.mv, 9), (.mv, 10), (.mv, 11), (.mv, 12), (.mv, 13), (.mv, 14), (.mv, 15), (.mv, 16), (.mv, 17)] rfl ?_)
      refine gr_rd rfl rfl rfl (rd_fieldAddr Tryd.fa38_3 rfl) ?_
      refine gr_rd rfl rfl rfl (rd_load1 Tryd.to29 rfl (Cells.own List.mem_cons_self) (v := .slice aq o.preds.length cq) (encOp_37 _ _)) ?_
      refine gr_rd rfl rfl rfl (rd_lenS Tryd.underlying29 rfl) ?_
      refine gr_rd rfl rfl rfl (rd_gtr rfl rfl) ?_
      refine gm rfl rfl rfl rfl ?_
      refine gr_split rfl (fun hg4 => ?_) (fun hg4 => ?_)
      ·skip
       refine gr_no rfl rfl rfl ?_
       refine gr_no rfl rfl rfl ?_
       refine gr_no rfl rfl rfl ?_
       refine gr_no rfl rfl rfl ?_
       refine gr_no rfl rfl rfl ?_
       (first | refine gpt rfl rfl rfl rfl rfl ?_ | refine gpf rfl rfl rfl rfl rfl ?_)
       refine gm rfl rfl rfl rfl ?_
       refine gr_no rfl rfl rfl ?_
       refine gr_no rfl rfl rfl ?_
       refine gr_no rfl rfl rfl ?_
       refine gr_no rfl rfl rfl ?_
       refine gr_no rfl rfl rfl ?_
       (first | refine gpt rfl rfl rfl rfl rfl ?_ | refine gpf rfl rfl rfl rfl rfl ?_)
       refine gr_nil (gk_then ?_)
       refine gc_yes rfl ?_
       have hbig : 70 < o.preds.length ∨ 100 < o.draft.key.length ∨ 100 < o.draft.value.length := by
         first
           | (have := of_decide_eq_true hg4; exact .inl (by omega))
           | (have := of_decide_eq_true hg11; exact .inr (.inl (by omega)))
           | (have := of_decide_eq_true hcR18; exact .inr (.inr (by omega)))
       rw [madeGo_big hmo hbig] at hgo
       refine gc_exit ?_
       refine gk_exit_then ?_
       refine gk_here ?_
       refine gk_then ?_
       refine gc_seqr [(.mv, 0), (.mv, 1)] rfl ?_
       (first | refine gr_rd rfl rfl rfl (rd_add rfl rfl (IntWalk.i64_in _ (by omega))) ?_ | refine gr_rd rfl rfl rfl (rd_add rfl rfl rfl) ?_)
       refine gm rfl rfl rfl rfl ?_
       refine gr_nil ?_
       first
         | (refine gk_drop (L' := ((b13, .cells [v0, v1, v2, v3].toArray 48 (0, 0)) :: (C0 ++ (C1 ++ (C2 ++ (C3 ++ (Co ++ L))))))) sba ?_
            refine gk_round ⟨k + 1, s, ov, v0, v1, v2, v3, sv, sw, C0, C1, C2, C3, Co, (.slice Ao ov.length co)⟩ ?_ ⟨hH1, rfl, hS, hO, hov, by simp only; omega, by simp only; omega, by simp only; omega, by simp only; omega, hgo⟩ sbs
            show xs.length - (k + 1) < xs.length - k
            omega)
         | (refine gk_perm (L' := ([(b124, .cells (encOpV (o, .slice aq o.preds.length cq)).toArray 38 (0, 0)), (b7, .cells (encOpV (o, .slice aq o.preds.length cq)).toArray 38 (0, 0)), (b6, .cells (encMakeV mk).toArray 78 (0, 0))] ++ Cr) ++ ((b13, .cells [w0, w1, w2, w3].toArray 48 (0, 0)) :: (D0 ++ (D1 ++ (D2 ++ (D3 ++ (Co2 ++ L))))))) (by haveI : DecidableEq (Nat × Obj) := fun _ _ => Classical.propDecidable _; rw [List.perm_iff_count]; intro a; simp only [List.count_append, List.count_cons, List.count_nil]; ac_rfl) ?_
            refine gk_drop (L' := ((b13, .cells [w0, w1, w2, w3].toArray 48 (0, 0)) :: (D0 ++ (D1 ++ (D2 ++ (D3 ++ (Co2 ++ L))))))) (List.sublist_append_right _ _) ?_
            refine gk_round ⟨k + 1, (take s o).1, ov ++ [(o, .slice aq o.preds.length cq)], w0, w1, w2, w3, sv', sw', D0, D1, D2, D3, Co2, v125⟩ ?_ ⟨hH1, rfl, hS3, by simpa [encOpV] using hO2, ?_, by simp only; omega, by simp only; omega, by simp only [List.length_append, List.length_cons, List.length_nil]; omega, by simp only; omega, ?_⟩ sbs
            · show xs.length - (k + 1) < xs.length - k
              omega
            · intro p hp
              rcases List.mem_append.1 hp with hp | hp
              · exact hov p hp
              · rw [List.mem_singleton.1 hp]; exact ⟨hq, hfit⟩
            · simpa using hgo)
      ·skip
       refine gr_rd rfl rfl rfl (rd_fieldAddr Tryd.fa38_0 rfl) ?_
       refine gr_rd rfl rfl rfl (rd_fieldAddr Tryd.fa36_1 rfl) ?_
       refine gr_rd rfl rfl rfl (rd_load1 Tryd.to9 rfl (Cells.own List.mem_cons_self) (v := str o.draft.key) (encOp_1 _ _)) ?_
       refine gr_rd rfl rfl rfl (rd_lenL Tryd.underlying9 rfl) ?_
       refine gr_rd rfl rfl rfl (rd_gtr rfl rfl) ?_
       (first | refine gpt rfl rfl rfl rfl rfl ?_ | refine gpf rfl rfl rfl rfl rfl ?_)
       refine gm rfl rfl rfl rfl ?_
       refine gr_split rfl (fun hg11 => ?_) (fun hg11 => ?_)
       ·skip
        refine gr_no rfl rfl rfl ?_
        refine gr_no rfl rfl rfl ?_
        refine gr_no rfl rfl rfl ?_
        refine gr_no rfl rfl rfl ?_
        refine gr_no rfl rfl rfl ?_
        (first | refine gpt rfl rfl rfl rfl rfl ?_ | refine gpf rfl rfl rfl rfl rfl ?_)
        refine gr_nil (gk_then ?_)
        refine gc_yes rfl ?_
        have hbig : 70 < o.preds.length ∨ 100 < o.draft.key.length ∨ 100 < o.draft.value.length := by
          first
            | (have := of_decide_eq_true hg4; exact .inl (by omega))
            | (have := of_decide_eq_true hg11; exact .inr (.inl (by omega)))
            | (have := of_decide_eq_true hcR18; exact .inr (.inr (by omega)))
        rw [madeGo_big hmo hbig] at hgo
        refine gc_exit ?_
        refine gk_exit_then ?_
        refine gk_here ?_
        refine gk_then ?_
        refine gc_seqr [(.mv, 0), (.mv, 1)] rfl ?_
        (first | refine gr_rd rfl rfl rfl (rd_add rfl rfl (IntWalk.i64_in _ (by omega))) ?_ | refine gr_rd rfl rfl rfl (rd_add rfl rfl rfl) ?_)
        refine gm rfl rfl rfl rfl ?_
        refine gr_nil ?_
        first
          | (refine gk_drop (L' := ((b13, .cells [v0, v1, v2, v3].toArray 48 (0, 0)) :: (C0 ++ (C1 ++ (C2 ++ (C3 ++ (Co ++ L))))))) sba ?_
             refine gk_round ⟨k + 1, s, ov, v0, v1, v2, v3, sv, sw, C0, C1, C2, C3, Co, (.slice Ao ov.length co)⟩ ?_ ⟨hH1, rfl, hS, hO, hov, by simp only; omega, by simp only; omega, by simp only; omega, by simp only; omega, hgo⟩ sbs
             show xs.length - (k + 1) < xs.length - k
             omega)
          | (refine gk_perm (L' := ([(b124, .cells (encOpV (o, .slice aq o.preds.length cq)).toArray 38 (0, 0)), (b7, .cells (encOpV (o, .slice aq o.preds.length cq)).toArray 38 (0, 0)), (b6, .cells (encMakeV mk).toArray 78 (0, 0))] ++ Cr) ++ ((b13, .cells [w0, w1, w2, w3].toArray 48 (0, 0)) :: (D0 ++ (D1 ++ (D2 ++ (D3 ++ (Co2 ++ L))))))) (by haveI : DecidableEq (Nat × Obj) := fun _ _ => Classical.propDecidable _; rw [List.perm_iff_count]; intro a; simp only [List.count_append, List.count_cons, List.count_nil]; ac_rfl) ?_
             refine gk_drop (L' := ((b13, .cells [w0, w1, w2, w3].toArray 48 (0, 0)) :: (D0 ++ (D1 ++ (D2 ++ (D3 ++ (Co2 ++ L))))))) (List.sublist_append_right _ _) ?_
             refine gk_round ⟨k + 1, (take s o).1, ov ++ [(o, .slice aq o.preds.length cq)], w0, w1, w2, w3, sv', sw', D0, D1, D2, D3, Co2, v125⟩ ?_ ⟨hH1, rfl, hS3, by simpa [encOpV] using hO2, ?_, by simp only; omega, by simp only; omega, by simp only [List.length_append, List.length_cons, List.length_nil]; omega, by simp only; omega, ?_⟩ sbs
             · show xs.length - (k + 1) < xs.length - k
               omega
             · intro p hp
               rcases List.mem_append.1 hp with hp | hp
               · exact hov p hp
               · rw [List.mem_singleton.1 hp]; exact ⟨hq, hfit⟩
             · simpa using hgo)
       ·skip
        refine gr_rd rfl rfl rfl (rd_fieldAddr Tryd.fa38_0 rfl) ?_
        refine gr_rd rfl rfl rfl (rd_fieldAddr Tryd.fa36_2 rfl) ?_
        refine gr_rd rfl rfl rfl (rd_load1 Tryd.to9 rfl (Cells.own List.mem_cons_self) (v := str o.draft.value) (encOp_2 _ _)) ?_
        refine gr_rd rfl rfl rfl (rd_lenL Tryd.underlying9 rfl) ?_
        refine gr_rd rfl rfl rfl (rd_gtr rfl rfl) ?_
        (first | refine gpt rfl rfl rfl rfl rfl ?_ | refine gpf rfl rfl rfl rfl rfl ?_)
        refine gr_nil (gk_then ?_)
        refine gc_cond rfl (fun hcR18 => ?_) (fun hcR18 => ?_)
        ·have hbig : 70 < o.preds.length ∨ 100 < o.draft.key.length ∨ 100 < o.draft.value.length := by
           first
             | (have := of_decide_eq_true hg4; exact .inl (by omega))
             | (have := of_decide_eq_true hg11; exact .inr (.inl (by omega)))
             | (have := of_decide_eq_true hcR18; exact .inr (.inr (by omega)))
         rw [madeGo_big hmo hbig] at hgo
         refine gc_exit ?_
         refine gk_exit_then ?_
         refine gk_here ?_
         refine gk_then ?_
         refine gc_seqr [(.mv, 0), (.mv, 1)] rfl ?_
         (first | refine gr_rd rfl rfl rfl (rd_add rfl rfl (IntWalk.i64_in _ (by omega))) ?_ | refine gr_rd rfl rfl rfl (rd_add rfl rfl rfl) ?_)
         refine gm rfl rfl rfl rfl ?_
         refine gr_nil ?_
         first
           | (refine gk_drop (L' := ((b13, .cells [v0, v1, v2, v3].toArray 48 (0, 0)) :: (C0 ++ (C1 ++ (C2 ++ (C3 ++ (Co ++ L))))))) sba ?_
              refine gk_round ⟨k + 1, s, ov, v0, v1, v2, v3, sv, sw, C0, C1, C2, C3, Co, (.slice Ao ov.length co)⟩ ?_ ⟨hH1, rfl, hS, hO, hov, by simp only; omega, by simp only; omega, by simp only; omega, by simp only; omega, hgo⟩ sbs
              show xs.length - (k + 1) < xs.length - k
              omega)
           | (refine gk_perm (L' := ([(b124, .cells (encOpV (o, .slice aq o.preds.length cq)).toArray 38 (0, 0)), (b7, .cells (encOpV (o, .slice aq o.preds.length cq)).toArray 38 (0, 0)), (b6, .cells (encMakeV mk).toArray 78 (0, 0))] ++ Cr) ++ ((b13, .cells [w0, w1, w2, w3].toArray 48 (0, 0)) :: (D0 ++ (D1 ++ (D2 ++ (D3 ++ (Co2 ++ L))))))) (by haveI : DecidableEq (Nat × Obj) := fun _ _ => Classical.propDecidable _; rw [List.perm_iff_count]; intro a; simp only [List.count_append, List.count_cons, List.count_nil]; ac_rfl) ?_
              refine gk_drop (L' := ((b13, .cells [w0, w1, w2, w3].toArray 48 (0, 0)) :: (D0 ++ (D1 ++ (D2 ++ (D3 ++ (Co2 ++ L))))))) (List.sublist_append_right _ _) ?_
              refine gk_round ⟨k + 1, (take s o).1, ov ++ [(o, .slice aq o.preds.length cq)], w0, w1, w2, w3, sv', sw', D0, D1, D2, D3, Co2, v125⟩ ?_ ⟨hH1, rfl, hS3, by simpa [encOpV] using hO2, ?_, by simp only; omega, by simp only; omega, by simp only [List.length_append, List.length_cons, List.length_nil]; omega, by simp only; omega, ?_⟩ sbs
              · show xs.length - (k + 1) < xs.length - k
                omega
              · intro p hp
                rcases List.mem_append.1 hp with hp | hp
                · exact hov p hp
                · rw [List.mem_singleton.1 hp]; exact ⟨hq, hfit⟩
              · simpa using hgo)
        ·have h1 := of_decide_eq_false hg4
         have h2 := of_decide_eq_false hg11
         have h3 := of_decide_eq_false hcR18
         rw [madeGo_some hmo (by omega)] at hgo
         have hfit : FitO o := ⟨hrq, by omega, by omega, by omega⟩
         have htl := take_len s o
         refine gc_skip ?_
         refine gk_then ?_
         refine gc_seq (gc_seqr [(.mv, 0), (.mv, 1), (.nm, 2)] rfl ?_)
         refine gm rfl rfl rfl rfl ?_
         refine gr_rd rfl rfl rfl (rd_loadA Tryd.ta38 rfl (Cells.own List.mem_cons_self) (Seg.all _) (encOpV_length _)) ?_
         refine gr_perm (L' := ((b13, .cells [v0, v1, v2, v3].toArray 48 (0, 0)) :: (C0 ++ (C1 ++ (C2 ++ (C3 ++ ((b7, .cells (encOpV (o, .slice aq o.preds.length cq)).toArray 38 (0, 0)) :: (b6, .cells (encMakeV mk).toArray 78 (0, 0)) :: (Co ++ L)))))))) (by haveI : DecidableEq (Nat × Obj) := fun _ _ => Classical.propDecidable _; rw [List.perm_iff_count]; intro a; simp only [List.count_append, List.count_cons, List.count_nil]; ac_rfl) ?_
         refine gr_nx rfl rfl rfl (nx_call Tryd.en19 rfl (rtake_cc _ ((b7, .cells (encOpV (o, .slice aq o.preds.length cq)).toArray 38 (0, 0)) :: (b6, .cells (encMakeV mk).toArray 78 (0, 0)) :: (Co ++ L)) hS (by omega) o _ hq hfit.small)) ?_; rintro v121 H' L' hle ⟨w0, w1, w2, w3, sv', sw', D0, D1, D2, D3, Cr, vr, hS3, hOr, rfl, rfl, rfl⟩; refine ⟨trivial, ?_⟩
         refine gr_nil (gk_then ?_)
         refine gc_seqr [(.mv, 0), (.mv, 1), (.nm, 2), (.nm, 3), (.mv, 4)] rfl ?_
         refine gm rfl rfl rfl rfl ?_
         refine gr_rd rfl rfl rfl (rd_loadA Tryd.ta38 rfl (Cells.own (l := encOpV (o, .slice aq o.preds.length cq)) (T := 38) (z := (0, 0)) (by simp [baseL])) (Seg.all _) (encOpV_length _)) ?_
         refine gr_nx rfl rfl rfl (nx_sliceA1 Tryd.underlying25 Tryd.sizeOf38 Tryd.zeroValue38 rfl rfl rfl lnk rfl) ?_; rintro _ _ _ _ ⟨b124, rfl, rfl, rfl⟩; refine ⟨trivial, ?_⟩
         refine gr_nx rfl rfl rfl (nx_append (m := 1) Tryd.app25_25 rfl rfl hO pik (src_slice (b := b124) (o := 0) (l := encOpV (o, .slice aq o.preds.length cq)) (m := 1) (by simp) (encOp_ones _ rfl) (fun h => by cases h) (fun _ _ => ⟨rfl, Cells.own List.mem_cons_self, Seg.all _⟩)) (by omega) (by omega)) ?_; rintro v125 H' L' hle ⟨Co2, hO2, _, rfl, rfl⟩; refine ⟨trivial, ?_⟩
         refine ga rfl rfl rfl rfl ?_
         refine gr_nil ?_
         refine gk_inBlock ?_
         refine gk_then ?_
         refine gc_seqr [(.mv, 0), (.mv, 1)] rfl ?_
         (first | refine gr_rd rfl rfl rfl (rd_add rfl rfl (IntWalk.i64_in _ (by omega))) ?_ | refine gr_rd rfl rfl rfl (rd_add rfl rfl rfl) ?_)
         refine gm rfl rfl rfl rfl ?_
         refine gr_nil ?_
         first
           | (refine gk_drop (L' := ((b13, .cells [v0, v1, v2, v3].toArray 48 (0, 0)) :: (C0 ++ (C1 ++ (C2 ++ (C3 ++ (Co ++ L))))))) sba ?_
              refine gk_round ⟨k + 1, s, ov, v0, v1, v2, v3, sv, sw, C0, C1, C2, C3, Co, (.slice Ao ov.length co)⟩ ?_ ⟨hH1, rfl, hS, hO, hov, by simp only; omega, by simp only; omega, by simp only; omega, by simp only; omega, hgo⟩ sbs
              show xs.length - (k + 1) < xs.length - k
              omega)
           | (refine gk_perm (L' := ([(b124, .cells (encOpV (o, .slice aq o.preds.length cq)).toArray 38 (0, 0)), (b7, .cells (encOpV (o, .slice aq o.preds.length cq)).toArray 38 (0, 0)), (b6, .cells (encMakeV mk).toArray 78 (0, 0))] ++ Cr) ++ ((b13, .cells [w0, w1, w2, w3].toArray 48 (0, 0)) :: (D0 ++ (D1 ++ (D2 ++ (D3 ++ (Co2 ++ L))))))) (by haveI : DecidableEq (Nat × Obj) := fun _ _ => Classical.propDecidable _; rw [List.perm_iff_count]; intro a; simp only [List.count_append, List.count_cons, List.count_nil]; ac_rfl) ?_
              refine gk_drop (L' := ((b13, .cells [w0, w1, w2, w3].toArray 48 (0, 0)) :: (D0 ++ (D1 ++ (D2 ++ (D3 ++ (Co2 ++ L))))))) (List.sublist_append_right _ _) ?_
              refine gk_round ⟨k + 1, (take s o).1, ov ++ [(o, .slice aq o.preds.length cq)], w0, w1, w2, w3, sv', sw', D0, D1, D2, D3, Co2, v125⟩ ?_ ⟨hH1, rfl, hS3, by simpa [encOpV] using hO2, ?_, by simp only; omega, by simp only; omega, by simp only [List.length_append, List.length_cons, List.length_nil]; omega, by simp only; omega, ?_⟩ sbs
              · show xs.length - (k + 1) < xs.length - k
                omega
              · intro p hp
                rcases List.mem_append.1 hp with hp | hp
                · exact hov p hp
                · rw [List.mem_singleton.1 hp]; exact ⟨hq, hfit⟩
              · simpa using hgo)
  ·have hkl : k = xs.length := by simp at hc0; omega
   have hgo2 : ov.map (·.1) = made (xs.map (·.1)) := by
     rw [← hgo, hkl, List.drop_eq_nil_of_le (by simp), madeGo_nil]
   refine gc_exit ?_
   refine gk_exit_then ?_
   refine gk_exit_then ?_
   refine gk_here ?_
   refine gk_then ?_
   refine gc_seq (gc_seqr [(.mv, 0), (.mv, 1)] rfl ?_)
   refine gm rfl rfl rfl rfl ?_
   refine ga rfl rfl rfl rfl ?_
   refine gr_nil (gk_then ?_)
   refine gc_ret ?_
   refine gk_result (L' := Co ++ L) (.inl rfl) _ (res1 rfl rfl) sbl gle ?_
   exact ⟨ov, Co, hO, hgo2, hov, by omega, rfl⟩
end Go.Proofs.YtfhldfjknagidaaDoor

/-
  Ranges over a map keyed by names: the range under way, its steps, inside a fence.
-/
set_option linter.unusedSimpArgs false
set_option linter.unusedVariables false
set_option linter.unnecessarySimpa false
set_option linter.all false
namespace Go.VK
open Go.Tr Go.Proofs Go.RowKit Go.ChangeMaps Go.MapKept

/-- The block b is a map with the entries m, in which no name stands twice; block r walks over it; xs: the names that have come; cnt: how many have not. -/
def RgN (w : World) (b r : Nat) (m : List (Nm × Value)) (xs : List Nm) (cnt : Nat) : Prop :=
  ∃ (es : List (Nm × Value × Nat)) (clock since : Nat) (seen : Array Nat) (c0 : Nat), w.heap[b]? = some (.map (es.map ment).toArray clock) ∧ es.map (fun p => (p.1, p.2.1)) = m ∧ es.Pairwise (fun p q => p.2.2 < q.2.2) ∧ (m.map (·.1)).Nodup ∧
    w.heap[r]? = some (.mapIter (some b) since seen c0) ∧ (∀ p ∈ es, p.2.2 < since) ∧ since ≤ c0 ∧ since ≤ clock ∧ (leftOf (es.map ment).toArray seen).size = cnt ∧
    xs.Nodup ∧ (∀ p ∈ es, p.1 ∈ xs ↔ seen.contains p.2.2 = true) ∧ (∀ x ∈ xs, x ∈ m.map (·.1))

theorem nodup_len : ∀ (xs ys : List Nm), xs.Nodup → (∀ x ∈ xs, x ∈ ys) → xs.length ≤ ys.length
  | [], _, _, _ => Nat.zero_le _
  | x :: r, ys, hn, hs => by
    rw [List.nodup_cons] at hn
    have hx := hs x List.mem_cons_self
    have ih := nodup_len r (ys.erase x) hn.2 fun y hy => (List.mem_erase_of_ne (fun e : y = x => hn.1 (by subst e; exact hy))).2 (hs y (List.mem_cons_of_mem _ hy))
    rw [List.length_erase_of_mem hx] at ih
    have : 0 < ys.length := List.length_pos_of_mem hx
    simp only [List.length_cons]; omega
section
variable {P : Program} {w : World} {b r : Nat} {m : List (Nm × Value)} {xs : List Nm} {cnt : Nat}
theorem RgN.left_eq (h : RgN w b r m xs cnt) : w.rangeLeft b r = cnt := by
  obtain ⟨es, clock, since, seen, c0, hb, _, _, _, hr, _, _, _, hc, _⟩ := h
  simp only [World.rangeLeft, hb, hr]
  exact hc
theorem RgN.ne (h : RgN w b r m xs cnt) : r ≠ b := by
  obtain ⟨es, clock, since, seen, c0, hb, _, _, _, hr, _⟩ := h
  intro e
  rw [e, hb] at hr
  cases hr
theorem RgN.of_walks {w' : World} (h : RgN w b r m xs cnt) (hk : KeepsWalks w w') : RgN w' b r m xs cnt := by
  obtain ⟨es, clock, since, seen, c0, hb, h1, h2, h3, hr, rest⟩ := h
  exact ⟨es, clock, since, seen, c0, hk.same b _ hb rfl, h1, h2, h3, hk.same r _ hr rfl, rest⟩
theorem RgN.iter_walk (h : RgN w b r m xs cnt) : ∃ o : Obj, w.heap[r]? = some o ∧ o.isWalk = true := by
  obtain ⟨es, clock, since, seen, c0, _, _, _, _, hr, _⟩ := h
  exact ⟨_, hr, rfl⟩
theorem RgN.len (h : RgN w b r m xs cnt) : xs.length ≤ m.length := by
  obtain ⟨es, clock, since, seen, c0, _, _, _, _, _, _, _, _, _, hx, _, hs⟩ := h
  have := nodup_len _ _ hx hs
  simpa using this
theorem name_inj {es : List (Nm × Value × Nat)} (hnd : ((es.map fun p => (p.1, p.2.1)).map (·.1)).Nodup) (hpw : es.Pairwise (fun p q => p.2.2 < q.2.2)) {p q : Nm × Value × Nat} (hp : p ∈ es) (hq : q ∈ es) : p.1 = q.1 ↔ p.2.2 = q.2.2 := by
  obtain ⟨i, hi, rfl⟩ := List.getElem_of_mem hp
  obtain ⟨j, hj, rfl⟩ := List.getElem_of_mem hq
  rcases Nat.lt_trichotomy i j with h | h | h
  · have h1 := List.pairwise_iff_getElem.1 hpw i j hi hj h
    have h2 := List.pairwise_iff_getElem.1 hnd i j (by simpa using hi) (by simpa using hj) h
    simp at h2
    exact ⟨fun e => absurd e h2, fun e => by omega⟩
  · subst h; simp
  · have h1 := List.pairwise_iff_getElem.1 hpw j i hj hi h
    have h2 := List.pairwise_iff_getElem.1 hnd j i (by simpa using hj) (by simpa using hi) h
    simp at h2
    exact ⟨fun e => absurd e.symm h2, fun e => by omega⟩

theorem RgN.start {t k e : TypeId} {ob : Obj} (hb : w.heap[b]? = some ob) (hm : MapO ob m) (ht : P.underlying t = some (.map k e)) :
    ∃ w', (Instr.range t (.map (some b))).run P w = .ok (.pointer (some ⟨w.heap.size, 0, none⟩)) w' ∧ RgN w' b w.heap.size m [] m.length ∧ w.grownBy w' none ∧ w'.heap.size = w.heap.size + 1 := by
  obtain ⟨es, c, rfl, rfl, hpw, hlt, hnd⟩ := hm
  have hlb : b < w.heap.size := (Array.getElem?_eq_some_iff.1 hb).1
  refine ⟨_, run_range_map w t k e b (es.map ment).toArray c ht hb, ⟨es, c, c, #[], c, ((MapKept.heap_alloc w _).2 b hlb).trans hb, rfl, hpw, hnd, (MapKept.heap_alloc w _).1, hlt, Nat.le_refl _, Nat.le_refl _, ?_, List.nodup_nil, ?_, ?_⟩, World.grownBy_alloc w _ none, by simp⟩
  · unfold leftOf
    rw [Array.filter_eq_self.2 (fun a _ => by simp)]
    simp
  · intro p hp; simp
  · intro x hx; cases hx

/-- THE STEP. -/
theorem RgN.next (h : RgN w b r m xs cnt) (ty : TypeId) :
    (xs.Perm (m.map (·.1)) ∧ (Instr.next (.pointer (some ⟨r, 0, none⟩)) false ty).run P w = .ok (.tuple #[.bool false]) w) ∨
    ∃ x v w' cnt', x ∉ xs ∧ x ∈ m.map (·.1) ∧ (Instr.next (.pointer (some ⟨r, 0, none⟩)) false ty).run P w = .ok (.tuple #[.bool true, ag (encId x), v]) w' ∧
      RgN w' b r m (xs ++ [x]) cnt' ∧ cnt' < cnt ∧ w.grownBy w' (some r) ∧ w'.heap.size = w.heap.size ∧ (Instr.entry (.pointer (some ⟨r, 0, none⟩))).run P w' = .ok (.tuple #[ag (encId x), v]) w' ∧ w.drawn ≤ w'.drawn := by
  have hne := h.ne
  obtain ⟨es, clock, since, seen, c0, hb, rfl, hpw, hnd, hr, hold, hsc, hsk, rfl, hxn, hxs, hxm⟩ := h
  have hmem : ∀ e ∈ (es.map ment).toArray.toList, ∃ p ∈ es, e = ment p := fun e he => by
    have he' : e ∈ es.map ment := he
    obtain ⟨p, hp, rfl⟩ := List.mem_map.1 he'
    exact ⟨p, hp, rfl⟩
  rcases run_next_at (P := P) w ty r b since c0 seen (es.map ment).toArray clock hr hb (fun e he => by obtain ⟨p, hp, rfl⟩ := hmem e he; exact hold p hp) hsc with ⟨h0, hrun⟩ | ⟨e, he, w1, hal, hrun⟩
  · refine .inl ⟨(List.perm_ext_iff_of_nodup hxn hnd).2 fun x => ⟨hxm x, fun hx => ?_⟩, hrun⟩
    obtain ⟨q, hq, rfl⟩ := List.mem_map.1 hx
    obtain ⟨p, hp, rfl⟩ := List.mem_map.1 hq
    have hmp : ment p ∈ (es.map ment).toArray.toList := List.mem_map.2 ⟨p, hp, rfl⟩
    exact (hxs p hp).2 (all_seen _ seen h0 (ment p) hmp)
  · obtain ⟨hem, hes⟩ := mem_left he
    obtain ⟨p, hp, rfl⟩ := hmem e hem
    have hpx : p.1 ∉ xs := fun hx => by
      have := (hxs p hp).1 hx
      have h2 : seen.contains p.2.2 = false := hes
      rw [h2] at this; cases this
    have hr1 : w1.heap[r]? = some (.mapIter (some b) since seen c0) := by rcases hal with rfl | rfl <;> exact hr
    have hb1 : w1.heap[b]? = some (.map (es.map ment).toArray clock) := by rcases hal with rfl | rfl <;> exact hb
    have hset := heap_set (o' := .mapIter (some b) since (seen.push p.2.2) clock) hr1
    have hb' : (setBlock w1 r (.mapIter (some b) since (seen.push p.2.2) clock)).heap[b]? = some (.map (es.map ment).toArray clock) := (hset.2 b (fun e1 => hne e1.symm)).trans hb1
    have hborn : ((es.map ment).toArray.toList.map (·.born)).Nodup := by
      have : ((es.map ment).toArray.toList.map (·.born)) = es.map (·.2.2) := by simp [ment]
      rw [this, List.Nodup, List.pairwise_map]
      exact hpw.imp fun h => Nat.ne_of_lt h
    refine .inr ⟨p.1, p.2.1, _, _, hpx, List.mem_map.2 ⟨(p.1, p.2.1), List.mem_map.2 ⟨p, hp, rfl⟩, rfl⟩, hrun,
      ⟨es, clock, since, seen.push p.2.2, clock, hb', rfl, hpw, hnd, hset.1, hold, hsk, hsk, rfl, ?_, fun q hq => ?_, fun x hx => ?_⟩, left_shrinks _ seen (ment p) he, ?_, ?_,
      run_entry_at _ r b since seen (es.map ment).toArray clock (ment p) hset.1 hb' hem hborn, by rcases hal with rfl | rfl; exact Nat.le_refl _; exact Nat.le_succ _⟩
    · rw [List.nodup_append]
      exact ⟨hxn, by simp, fun a ha c hc => by simp at hc; subst hc; exact fun e => hpx (e ▸ ha)⟩
    · rw [List.mem_append, List.mem_singleton, hxs q hq, contains_push, name_inj hnd hpw hq hp]
      simp [Bool.or_eq_true]
    · rcases List.mem_append.1 hx with hx | hx
      · exact hxm x hx
      · rw [List.mem_singleton.1 hx]; exact List.mem_map.2 ⟨(p.1, p.2.1), List.mem_map.2 ⟨p, hp, rfl⟩, rfl⟩
    · rcases hal with rfl | rfl <;> exact ⟨rfl, rfl, rfl, by simp [setBlock], fun i _ hi => hset.2 i (fun e1 => hi (by rw [e1]))⟩
    · rcases hal with rfl | rfl <;> simp [setBlock]
end

section
variable {F : Fence} {n : Nat} {P : Program} (w : World) {ops : Array Oper} {rest : List Oper} {o : Oper} {a : Act} {Q : Exit → Act → World → Prop}
theorem wpListIn_range_nm (hg : o.guard = none) (x : Operand) (t : TypeId) (hop : o.op = Op.range t x) (k e : TypeId) (ht : P.underlying t = some (.map k e)) (b : Nat) (ob : Obj) (m : List (Nm × Value))
    (hm : a.eval x = .map (some b)) (hb : w.heap[b]? = some ob) (hM : MapO ob m)
    (hK : ∀ w', RgN w' b w.heap.size m [] m.length → w.grownBy w' none → w'.heap.size = w.heap.size + 1 → wpListIn F n P ops Q rest (a.put o.dst (.pointer (some ⟨w.heap.size, 0, none⟩))) w') :
    wpListIn F n P ops Q (o :: rest) a w := by
  refine wpListIn_plain hg fun K' hK' => ?_
  obtain ⟨w', hrun, r1, r2, r3⟩ := RgN.start (P := P) hb hM ht
  unfold Oper.wpIn
  refine ⟨?_, ?_⟩
  · simp [Oper.about, hop]
  · rw [Oper.semAt_plain F _ _ (by rw [hop]; intro c hc'; cases hc')]
    simp [execOp, hop, hm, hrun, Result.andThen]
    exact hK' _ _ (hK w' r1 r2 r3)
theorem wpListIn_next_nm (hg : o.guard = none) (it : Operand) (hop : o.op = Op.next it false) (b r : Nat) (m : List (Nm × Value)) (xs : List Nm) (cnt : Nat)
    (hit : a.eval it = .pointer (some ⟨r, 0, none⟩)) (h : RgN w b r m xs cnt)
    (hDone : xs.Perm (m.map (·.1)) → wpListIn F n P ops Q rest (a.put o.dst (.tuple #[.bool false])) w)
    (hMore : ∀ (x : Nm) (v : Value) (w' : World) (cnt' : Nat), x ∉ xs → x ∈ m.map (·.1) → RgN w' b r m (xs ++ [x]) cnt' → cnt' < cnt → w.grownBy w' (some r) → w'.heap.size = w.heap.size →
      (Instr.entry (.pointer (some ⟨r, 0, none⟩))).run P w' = .ok (.tuple #[ag (encId x), v]) w' → wpListIn F n P ops Q rest (a.put o.dst (.tuple #[.bool true, ag (encId x), v])) w') :
    wpListIn F n P ops Q (o :: rest) a w := by
  refine wpListIn_plain hg fun K' hK' => ?_
  unfold Oper.wpIn
  refine ⟨by simp [Oper.about, hop], ?_⟩
  rw [Oper.semAt_plain F _ _ (by rw [hop]; intro c hc'; cases hc')]
  rcases h.next (P := P) o.type with ⟨hp, hrun⟩ | ⟨x, v, w', cnt', h1, h2, hrun, hrg, hlt, hgr, hsz, hen, _⟩
  · simp [execOp, hop, hit, hrun, Result.andThen]
    exact hK' _ _ (hDone hp)
  · simp [execOp, hop, hit, hrun, Result.andThen]
    exact hK' _ _ (hMore x v w' cnt' h1 h2 hrg hlt hgr hsz hen)
end
end Go.VK

/-
  Steps inside a fence: operations in a round of a range over a function; a call of yield; the iterator's objects.
-/
set_option linter.unusedSimpArgs false
set_option linter.unusedVariables false
set_option linter.unnecessarySimpa false
set_option linter.all false
namespace Go.VK
open Go.Tr Go.Proofs

section
variable {F : Fence} {m : Nat} {P : Program} {ops : Array Oper} {Q : Exit → Act → World → Prop} {n : Nat} {E : Env} {l : List Oper} {H : Gh} {L : Chunks}
  {d : Nat} {dst : Option Nat} {op : Op} {t : TypeId} {p : String} {af : Array Edge} {v : Value}
/-- A list of operations, one behind the other, inside a fence. -/
def GI (F : Fence) (m : Nat) (P : Program) (ops : Array Oper) (Q : Exit → Act → World → Prop) (n : Nat) (E : Env) (l : List Oper) (H : Gh) (L : Chunks) : Prop :=
  ∀ a w, At a n E → Sat w H L → wpListIn F m P ops Q l a w
/-- An operation that calls nothing and defers nothing. -/
def Bare (P : Program) (op : Op) : Prop := (∀ w ρ t, (⟨none, op, t, "", #[], none⟩ : Oper).about P w ρ = none) ∧ ∀ c, op ≠ .defer c
theorem gi_nil (h : GK Q .normal n E H L) : GI F m P ops Q n E [] H L := fun a w hA hS => h a w hA hS
theorem step_in {x : Next} {w' : World} {K : Act → World → Prop} {a : Act} {w : World} (hb : Bare P op) (hr : (execOp a.eval ⟨none, op, t, "", #[], none⟩).run P w = .ok x w') (hx : x = .value v ∨ (x = .skip ∧ v = undef)) (hK : K (a.put dst v) w') :
    (⟨dst, op, t, p, af, none⟩ : Oper).wpIn F m P a w K Q := by
  unfold Oper.wpIn
  refine ⟨fun f hf => ?_, ?_⟩
  · have h1 : (⟨dst, op, t, p, af, none⟩ : Oper).about P w a.eval = (⟨none, op, t, "", #[], none⟩ : Oper).about P w a.eval := rfl
    rw [h1, hb.1] at hf; cases hf
  · rw [Oper.semAt_plain F _ _ hb.2]
    have h1 : (execOp a.eval ⟨dst, op, t, p, af, none⟩).run P w = .ok x w' := hr
    rw [h1]
    rcases hx with rfl | ⟨rfl, rfl⟩ <;> exact hK
theorem gi_rd (hb : Bare P op) (hn : Nat.blt d n = true) (hr : Rd P E H L op t v) (h : GI F m P ops Q n ((d, v) :: E) l H L) : GI F m P ops Q n E (⟨some d, op, t, p, af, none⟩ :: l) H L := by
  intro a w hA hS
  refine wpListIn_plain rfl fun K hK => ?_
  exact step_in hb (hr a w n hA hS) (.inl rfl) (hK _ _ (h _ w (hA.put (blt_lt hn) v) hS))
theorem gi_ny {R : Value → Gh → Chunks → Prop} (hb : Bare P op) (hn : Nat.blt d n = true) (hr : Ny P E H L op t R) (h : ∀ v H' L', H ≤ H' → R v H' L' → GI F m P ops Q n ((d, v) :: E) l H' L') : GI F m P ops Q n E (⟨some d, op, t, p, af, none⟩ :: l) H L := by
  intro a w hA hS
  refine wpListIn_plain rfl fun K hK => ?_
  obtain ⟨x, w', H', L', v, h1, h2, h3, h4, h5⟩ := hr a w n hA hS
  exact step_in hb h1 h2 (hK _ _ (h v H' L' h3 h5 _ w' (hA.put (blt_lt hn) v) h4))
theorem gi_ny0 {R : Value → Gh → Chunks → Prop} (hb : Bare P op) (hr : Ny P E H L op t R) (h : ∀ v H' L', H ≤ H' → R v H' L' → GI F m P ops Q n E l H' L') : GI F m P ops Q n E (⟨none, op, t, p, af, none⟩ :: l) H L := by
  intro a w hA hS
  refine wpListIn_plain rfl fun K hK => ?_
  obtain ⟨x, w', H', L', v, h1, h2, h3, h4, h5⟩ := hr a w n hA hS
  exact step_in hb h1 h2 (hK _ _ (h v H' L' h3 h5 _ w' hA h4))
/-- A call of yield. -/
theorem gi_yield {F : Fence} {f : Nat} {fx : Operand} {xs : List Operand} {ts : Array TypeId} {vs : List Value} {R : Value → Gh → Chunks → Prop} (hro : F.depth = none) (hn : Nat.blt d n = true) (hf : ev E fx = some (.func (.yield f) #[] #[])) (hxs : evs E xs = some vs)
    (hy : ∀ w, Sat w H L → YieldAt F (m - 1) P f vs.toArray w fun e w' => ∃ v H' L', e = .returned v ∧ H ≤ H' ∧ Sat w' H' L' ∧ R v H' L')
    (h : ∀ v H' L', H ≤ H' → R v H' L' → GI F m P ops Q n ((d, v) :: E) l H' L') : GI F m P ops Q n E (⟨some d, .call ⟨.value fx, xs.toArray, ts⟩, t, p, af, none⟩ :: l) H L := by
  intro a w hA hS
  refine wpListIn_plain rfl fun K hK => ?_
  obtain ⟨fn, tmps, assign, body, hyr, hR⟩ := hy w hS
  have e1 : (xs.toArray.map a.eval) = vs.toArray := by rw [List.map_toArray, evs_spec hA xs vs hxs]
  have e2 : (execOp a.eval ⟨some d, .call ⟨.value fx, xs.toArray, ts⟩, t, p, af, none⟩).run P w = .ok (.round f fn tmps assign body) w := by
    have e3 : (execOp a.eval ⟨some d, .call ⟨.value fx, xs.toArray, ts⟩, t, p, af, none⟩) = (do let d ← resolve a.eval ⟨.value fx, xs.toArray, ts⟩ t; invoke d.target d.args) := rfl
    rw [e3]
    simp only [resolve, e1, hA.ev hf, Deferred.ofValue]
    simpa [invoke] using hyr
  unfold Oper.wpIn
  refine ⟨fun g hg => ?_, ?_⟩
  · simp [Oper.about, resolve, e1, hA.ev hf, Deferred.ofValue, Target.leads] at hg
  · rw [Oper.semAt_plain F _ _ (fun c h => by cases h), e2]
    simp only [Oper.uponIn]
    refine ⟨fun h => (by rw [hro] at h; cases h), hR.mono ?_⟩
    rintro e w' ⟨v, H', L', rfl, h1, h2, h3⟩
    exact hK _ _ (h v H' L' h1 h3 _ w' (hA.put (blt_lt hn) v) h2)
/-- A region in the text's own order, by steps inside the wide fence. -/
theorem gc_wide {id : Nat} {l : List Oper} (h : GI Fence.wide 1 P l.toArray Q n E l H L) : GC P (.region id l.toArray false) Q n E H L := fun a w hA hS =>
  wpIn_wide.1 (wpIn_region_lit (h a w hA hS))
end

/-! ## The iterator's object -/
section
variable {P : Program} {E : Env} {H : Gh} {L : Chunks} {t T k e : TypeId} {x : Operand} {b r : Nat} {ob iq : Obj} {m : List (Nm × Value)} {xs : List Nm} {cnt : Nat}
/-- ob is a map of the entries m, the other an iterator over block b, which is ob; xs have come. -/
def ItO (b : Nat) (ob iq : Obj) (m : List (Nm × Value)) (xs : List Nm) (cnt : Nat) : Prop :=
  ∀ (w : World) (r : Nat), w.heap[b]? = some ob → w.heap[r]? = some iq → RgN w b r m xs cnt
theorem RgN.items {w : World} (h : RgN w b r m xs cnt) : ∃ ob iq, w.heap[b]? = some ob ∧ w.heap[r]? = some iq ∧ ItO b ob iq m xs cnt := by
  obtain ⟨es, clock, since, seen, c0, hb, h1, h2, h3, hr, rest⟩ := h
  exact ⟨_, _, hb, hr, fun w' r' hb' hr' => ⟨es, clock, since, seen, c0, hb', h1, h2, h3, hr', rest⟩⟩
theorem nx_range {hd : Obj} (ht : P.underlying T = some (.map k e)) (hx : ev E x = some (.map (some b))) (hM : MapO ob m) (hb : (b, ob) ∈ L) :
    Nx P E H L (.range T x) t (fun v H' L' => ∃ r iq, v = pt r 0 ∧ H = H' ∧ ItO b ob iq m [] m.length ∧ (r, iq) :: L = L') :=
  Nx.of_run fun a w N hA hS => by
    have hbw := (hS.own _ hb).1
    obtain ⟨es, c, rfl, hes, hpw, hlt, hnd⟩ := hM
    have hrun := run_range_map (P := P) w T k e b (es.map ment).toArray c ht hbw
    obtain ⟨w', h1, h2, h3, h4⟩ := RgN.start (P := P) hbw ⟨es, c, rfl, hes, hpw, hlt, hnd⟩ ht
    rw [hrun] at h1
    simp only [Result.ok.injEq] at h1
    have hw' := h1.2
    obtain ⟨ob', iq, hb', hit, hI⟩ := h2.items
    have hsat : Sat w' H ((w.heap.size, .mapIter (some b) c #[] c) :: L) := by rw [← hw']; exact hS.new _
    have e1 := (hsat.own _ List.mem_cons_self).1
    have e2 := (hsat.own _ (List.mem_cons_of_mem _ hb)).1
    rw [hit] at e1; cases e1
    rw [hb'] at e2; cases e2
    refine ⟨.value (pt w.heap.size 0), w', H, _, _, ?_, .inl rfl, Gh.le_refl _, hsat, _, _, rfl, rfl, hI, rfl⟩
    simp only [execOp, hA.ev hx, Sem.run_bind, hrun, Result.andThen_ok, Sem.run_pure, hw']
/-- The step: done, or a name comes. -/
theorem sat_next {w : World} (hS : Sat w H L) (hb : (b, ob) ∈ L) {i : Nat} (hi : L[i]? = some (r, iq)) (hI : ItO b ob iq m xs cnt) (ty : TypeId) :
    (xs.Perm (m.map (·.1)) ∧ (Instr.next (pt r 0) false ty).run P w = .ok (.tuple #[.bool false]) w) ∨
    ∃ n v w' iq' cnt', n ∉ xs ∧ n ∈ m.map (·.1) ∧ (Instr.next (pt r 0) false ty).run P w = .ok (.tuple #[.bool true, ag (encId n), v]) w' ∧ ItO b ob iq' m (xs ++ [n]) cnt' ∧ cnt' < cnt ∧ Sat w' H (L.set i (r, iq')) ∧
      (∀ w'' , w''.heap[b]? = some ob → w''.heap[r]? = some iq' → (Instr.entry (pt r 0)).run P w'' = .ok (.tuple #[ag (encId n), v]) w'') := by
  have hbw := (hS.own _ hb).1
  have hrw := (hS.own _ (List.mem_of_getElem? hi)).1
  have hR := hI w r hbw hrw
  have hne := hR.ne
  rcases hR.next (P := P) ty with ⟨h1, h2⟩ | ⟨n, v, w', cnt', h1, h2, h3, h4, h5, h6, h7, h8, h9⟩
  · exact .inl ⟨h1, h2⟩
  · obtain ⟨ob', iq', hb', hit, hI'⟩ := h4.items
    have hbb : w'.heap[b]? = w.heap[b]? := h6.block b (Array.getElem?_eq_some_iff.1 hbw).1 (fun e => hne (Option.some.inj e).symm)
    have : ob' = ob := by rw [hbb, hbw] at hb'; cases hb'; rfl
    subst this
    refine .inr ⟨n, v, w', iq', cnt', h1, h2, h3, hI', h5, ?_, fun w'' hb2 hr2 => ?_⟩
    · refine hS.put hi iq' h6.os h6.tape h9 h6.output hit fun j hj => ?_
      by_cases hlt : j < w.heap.size
      · exact h6.block j hlt (fun e => hj (Option.some.inj e))
      · rw [Array.getElem?_eq_none (by omega), Array.getElem?_eq_none (by omega)]
    · have hg : ∀ q : Nat, q = b ∨ q = r → w''.heap[q]? = w'.heap[q]? := by
        rintro q (rfl | rfl)
        · rw [hb2, hb']
        · rw [hr2, hit]
      obtain ⟨es, clock, since, seen, c0, k1, _, _, _, k2, _⟩ := h4
      rw [hb'] at k1; cases k1
      rw [hit] at k2; cases k2
      have e1 : (getObj r).run P w' = .ok (.mapIter (some b) since seen c0) w' := by simp [getObj, Sem.run, hit]
      have e2 : (getObj r).run P w'' = .ok (.mapIter (some b) since seen c0) w'' := by simp [getObj, Sem.run, hr2]
      have e3 : (getObj b).run P w' = .ok (.map (es.map ment).toArray clock) w' := by simp [getObj, Sem.run, hb']
      have e4 : (getObj b).run P w'' = .ok (.map (es.map ment).toArray clock) w'' := by simp [getObj, Sem.run, hb2]
      simp only [Instr.entry, Sem.run_bind, e1, e3, Result.andThen_ok] at h8
      simp only [Instr.entry, Sem.run_bind, e2, e4, Result.andThen_ok]
      cases hsb : seen.back? with
      | none => rw [hsb] at h8; simp at h8
      | some st =>
        rw [hsb] at h8
        simp only [Sem.run_bind, e3, e4, Result.andThen_ok] at h8 ⊢
        cases hcl : (clock != c0) with
        | true => rw [hcl] at h8; simp at h8
        | false =>
          rw [hcl] at h8
          simp only [Bool.false_eq_true, if_false] at h8 ⊢
          cases hfd : (List.map ment es).toArray.find? (fun e => e.born == st) with
          | none => rw [hfd] at h8; simp at h8
          | some q => rw [hfd] at h8; simp at h8 ⊢; exact h8
end
end Go.VK
namespace Go.VK
open Go.Tr Go.Proofs
section
variable {P : Program} {E : Env} {H : Gh} {L : Chunks} {t : TypeId} {x : Operand} {b r : Nat} {ob iq : Obj} {m : List (Nm × Value)} {xs : List Nm} {cnt : Nat}
theorem nx_next (hx : ev E x = some (pt r 0)) (hb : (b, ob) ∈ L) (hI : ItO b ob iq m xs cnt) :
    Nx P E H ((r, iq) :: L) (.next x false) t (fun v H' L' => ∃ c vs iq', v = .tuple vs ∧ vs[0]? = some (.bool c) ∧ H = H' ∧ L' = (r, iq') :: L ∧ (c = false → xs.Perm (m.map (·.1))) ∧
      (c = true → ∃ n u cnt', n ∉ xs ∧ n ∈ m.map (·.1) ∧ ItO b ob iq' m (xs ++ [n]) cnt' ∧ cnt' < cnt ∧ ∀ w : World, w.heap[b]? = some ob → w.heap[r]? = some iq' → (Instr.entry (pt r 0)).run P w = .ok (.tuple #[ag (encId n), u]) w)) :=
  Nx.of_run fun a w N hA hS => by
    rcases sat_next (P := P) hS (List.mem_cons_of_mem _ hb) (i := 0) rfl hI t with ⟨h1, h2⟩ | ⟨n, u, w', iq', cnt', h1, h2, h3, h4, h5, h6, h7⟩
    · refine ⟨.value (.tuple #[.bool false]), w, H, _, _, ?_, .inl rfl, Gh.le_refl _, hS, false, _, iq, rfl, rfl, rfl, rfl, fun _ => h1, fun h => by cases h⟩
      simp only [execOp, hA.ev hx, Sem.run_bind, h2, Result.andThen_ok, Sem.run_pure]
    · refine ⟨.value (.tuple #[.bool true, ag (encId n), u]), w', H, _, _, ?_, .inl rfl, Gh.le_refl _, h6, true, _, iq', rfl, rfl, rfl, rfl, (fun h => by cases h), fun _ => ⟨n, u, cnt', h1, h2, h4, h5, h7⟩⟩
      simp only [execOp, hA.ev hx, Sem.run_bind, h3, Result.andThen_ok, Sem.run_pure]
theorem rd_entry {v : Value} (hx : ev E x = some (pt r 0)) (hb : (b, ob) ∈ L) (hr : (r, iq) ∈ L) (h : ∀ w : World, w.heap[b]? = some ob → w.heap[r]? = some iq → (Instr.entry (pt r 0)).run P w = .ok v w) : Rd P E H L (.entry x) t v := fun a w n hA hS => by
  have h2 := h w (hS.own _ hb).1 (hS.own _ hr).1
  simp only [execOp, hA.ev hx, Sem.run_bind, h2, Result.andThen_ok, Sem.run_pure]
theorem ItO.len {w : World} (h : ItO b ob iq m xs cnt) (hS : Sat w H L) (hb : (b, ob) ∈ L) (hr : (r, iq) ∈ L) : xs.length ≤ m.length :=
  (h w r (hS.own _ hb).1 (hS.own _ hr).1).len
theorem Sat.putObj {w : World} {i l : Nat} {o : Obj} (h : Sat w H L) (hi : L[i]? = some (l, o)) (o' : Obj) : Sat (w.putObj l o') H (L.set i (l, o')) :=
  h.put hi o' rfl rfl (Nat.le_refl _) rfl (World.putObj_heap_same (h.lt_own (List.mem_of_getElem? hi))) (fun j hj => World.putObj_heap_other hj)
end
end Go.VK
namespace Go.VK
open Go.Tr Go.Proofs
section
variable {P : Program} {E : Env} {H : Gh} {L : Chunks} {n : Nat} {Q : Exit → Act → World → Prop} {g : Operand} {ps : Array Tmp} {A B : Code}
/-- The codes of a range over a function, as variables. -/
theorem gc_rf_open (h : ∀ A' B' : Code, A' = A → B' = B → GC P (.rangeFunc g ps A' B') Q n E H L) : GC P (.rangeFunc g ps A B) Q n E H L := h A B rfl rfl
theorem at_args {args : List Value} (hle : args.length ≤ n) : At { tmps := args.toArray ++ Array.replicate (n - args.toArray.size) undef, defers := [] } n (argEnv 0 args) := by
  refine ⟨rfl, ?_, fun i v hv => ?_⟩
  · simp; omega
  · obtain ⟨_, h2⟩ := argEnv_find args 0 i v hv
    have hl : i < args.length := (List.getElem?_eq_some_iff.1 (by simpa using h2)).1
    have h3 : args[i]? = some v := by simpa using h2
    have h4 : args[i] = v := by rw [List.getElem?_eq_getElem hl] at h3; exact Option.some.inj h3
    simp [Array.getD_eq_getD_getElem?, Array.getElem?_append, hl, h4]
/-- One operation that only looks, whatever is deferred. -/
theorem rd_defers {op : Op} {t : TypeId} {v : Value} {a : Act} {w : World} (hr : Rd P E H L op t v) (hA : At { a with defers := [] } n E) (hS : Sat w H L) : (execOp a.eval ⟨none, op, t, "", #[], none⟩).run P w = .ok (.value v) w :=
  hr { a with defers := [] } w n hA hS
end
end Go.VK

/-
  Walks: the names of a map, one by one; collected.
-/
set_option linter.unusedSimpArgs false
set_option linter.unusedVariables false
set_option linter.unnecessarySimpa false
set_option linter.all false
namespace Go.Proofs.YtfhldfjknagidaaDoor
open Go.VK Go.Tr
set_option maxRecDepth 20000
attribute [local irreducible] Go.Tr.sha
theorem Tryd.tm : TMap Tryd.prog 80 34 38 5 := ⟨Tryd.underlying80, Tryd.tb34⟩
structure KS where
  xs : List Nm
  C : Chunks
  iq : Obj
  cnt : Nat

set_option maxHeartbeats 1000000 in
theorem keysGo_cc (H : Gh) (LB : Chunks) {lp Bm b : Nat} {ob : Obj} {m : List (Nm × Value)} (hM : MapO ob m) (J : List Nm → Chunks → Prop)
    (hY : ∀ pre x C (L0 : Chunks) w, pre.length < m.length → J pre C → Sat w H (C ++ L0) → YieldAt Fence.wide 0 Tryd.prog lp #[ag (encId x)] w fun e w' => e = .returned (.bool true) ∧ ∃ C', J (pre ++ [x]) C' ∧ Sat w' H (C' ++ L0)) (C0 : Chunks) (h0 : J [] C0) :
    CC Tryd.prog 75 #[.func (.yield lp) #[] #[], pt Bm 0] H (C0 ++ ((Bm, .cells [.map (some b)].toArray 80 (0, 0)) :: (b, ob) :: LB)) (fun _ H' L' => ∃ xs C, xs.Perm (m.map (·.1)) ∧ J xs C ∧ H = H' ∧ C ++ ((Bm, .cells [.map (some b)].toArray 80 (0, 0)) :: (b, ob) :: LB) = L') := by
 refine cc_of Tryd.func75 rfl (Nat.le_of_ble_eq_true rfl) ?_
 simp only [Tryd.ntmps75]
 refine gc_seq (gc_seqr [(.mv, 0), (.nm, 1)] rfl ?_)
 refine gr_rd rfl rfl rfl (rd_load1 Tryd.to80 rfl (Cells.own (l := [.map (some b)]) (T := 80) (z := (0, 0)) (by simp [baseL])) rfl) ?_
 refine gr_nx rfl rfl rfl (nx_range (hd := ob) Tryd.underlying80 rfl hM (by simp)) ?_; rintro v5 H' L' hle ⟨r, iq0, rfl, rfl, hI0, rfl⟩; refine ⟨trivial, ?_⟩
 refine gr_nil (gk_then ?_)
 refine gc_block ?_
 refine gc_loop (fun t : KS => [(0, .func (.yield lp) #[] #[]), (5, pt r 0)]) (fun t H1 L1 => H = H1 ∧ (r, t.iq) :: (t.C ++ ((Bm, .cells [.map (some b)].toArray 80 (0, 0)) :: (b, ob) :: LB)) = L1 ∧ J t.xs t.C ∧ ItO b ob t.iq m t.xs t.cnt) (fun t => t.cnt) (⟨[], C0, iq0, m.length⟩) ?_ sbs ?_
 ·exact ⟨rfl, rfl, h0, hI0⟩
 ·rintro ⟨xs, C, iq, cnt⟩ H1 L1 ⟨rfl, rfl, hJ, hI⟩
  simp only at hJ hI
  show GC _ _ _ _ [(0, .func (.yield lp) #[] #[]), (5, pt r 0)] H ((r, iq) :: (C ++ ((Bm, .cells [.map (some b)].toArray 80 (0, 0)) :: (b, ob) :: LB)))
  refine gc_seq (gc_seqr [(.nm, 0), (.mv, 1)] rfl ?_)
  refine gr_nx rfl rfl rfl (nx_next (ob := ob) rfl (by simp) hI) ?_; rintro v6 H' L' hle ⟨c, vs, iq2, rfl, hv0, rfl, rfl, hdone, hmore⟩; refine ⟨trivial, ?_⟩
  refine gr_rd rfl rfl rfl (rd_extract rfl hv0) ?_
  refine gr_nil (gk_then ?_)
  refine gc_seq ?_
  refine gc_cond rfl (fun hc0 => ?_) (fun hc0 => ?_)
  ·obtain ⟨n, u, cnt2, hn1, hn2, hI2, hlt, hent⟩ := hmore hc0
   refine gc_skip ?_
   refine gk_then ?_
   refine gc_block ?_
   refine gc_seq (gc_seqr [(.mv, 0), (.mv, 1), (.nm, 2), (.nm, 3)] rfl ?_)
   refine gr_rd rfl rfl rfl (rd_entry (b := b) (ob := ob) rfl (by simp [baseL]) (by simp [baseL]) hent) ?_
   refine gr_rd rfl rfl rfl (rd_extract rfl rfl) ?_
   refine gr_nx rfl rfl rfl (nx_alloc Tryd.zeroValue34 rfl) ?_; rintro _ _ _ _ ⟨b3, rfl, rfl, rfl⟩; refine ⟨trivial, ?_⟩
   refine gr_nx0 rfl rfl (nx_store (vs := encId n) Tryd.sizeOf34 rfl rfl rfl (encId_length _) Upd.here (by simp) (encId_ones _)) ?_; rintro _ _ _ _ ⟨rfl, rfl, rfl⟩; refine ⟨trivial, ?_⟩
   rw [wr_all (by simp)]
   refine gr_nil (gk_then ?_)
   refine gc_seq ?_
   refine gc_wide ?_
   refine gi_rd (v := .func (.yield lp) #[] #[]) ⟨fun _ _ _ => rfl, fun _ h => by cases h⟩ rfl (rd_move rfl) ?_
   refine gi_rd (v := ag (encId n)) ⟨fun _ _ _ => rfl, fun _ h => by cases h⟩ rfl (rd_loadA Tryd.ta34 rfl (Cells.own List.mem_cons_self) (Seg.all _) (encId_length _)) ?_
   refine gi_yield (f := lp) (xs := [.tmp 11]) (vs := [ag (encId n)]) (R := fun v H' L' => v = .bool true ∧ H = H' ∧ ∃ C', J (xs ++ [n]) C' ∧ C' ++ ((b3, .cells (encId n).toArray 34 (0, 0)) :: (r, iq2) :: ((Bm, .cells [.map (some b)].toArray 80 (0, 0)) :: (b, ob) :: LB)) = L') rfl rfl rfl rfl (fun w hw => ?_) ?_
   · have hlen := hI2.len (r := r) hw (by simp) (by simp)
     refine YieldAt.mono (hY xs n C ((b3, .cells (encId n).toArray 34 (0, 0)) :: (r, iq2) :: ((Bm, .cells [.map (some b)].toArray 80 (0, 0)) :: (b, ob) :: LB)) w (by simp at hlen; omega) hJ (hw.perm (by haveI : DecidableEq (Nat × Obj) := fun _ _ => Classical.propDecidable _; rw [List.perm_iff_count]; intro a; simp only [List.count_append, List.count_cons, List.count_nil]; ac_rfl))) ?_
     rintro e w' ⟨rfl, C', h1, h2⟩
     exact ⟨_, H, _, rfl, Gh.le_refl _, h2, rfl, rfl, C', h1, rfl⟩
   rintro _ _ _ _ ⟨rfl, rfl, C2, hJ2, rfl⟩
   refine gi_rd (v := .bool (!true)) ⟨fun _ _ _ => rfl, fun _ h => by cases h⟩ rfl (rd_not rfl) ?_
   refine gi_nil ?_
   refine gk_then ?_
   refine gc_no rfl ?_
   refine gc_skip ?_
   refine gk_inBlock ?_
   refine gk_perm (L' := [(b3, .cells (encId n).toArray 34 (0, 0))] ++ ((r, iq2) :: (C2 ++ ((Bm, .cells [.map (some b)].toArray 80 (0, 0)) :: (b, ob) :: LB)))) (by haveI : DecidableEq (Nat × Obj) := fun _ _ => Classical.propDecidable _; rw [List.perm_iff_count]; intro a; simp only [List.count_append, List.count_cons, List.count_nil]; ac_rfl) ?_
   refine gk_drop (L' := (r, iq2) :: (C2 ++ ((Bm, .cells [.map (some b)].toArray 80 (0, 0)) :: (b, ob) :: LB))) (List.sublist_append_right _ _) ?_
   exact gk_round ⟨xs ++ [n], C2, iq2, cnt2⟩ hlt ⟨rfl, rfl, hJ2, hI2⟩ sbs
  ·have hpm := hdone hc0
   refine gc_exit ?_
   refine gk_exit_then ?_
   refine gk_exit_then ?_
   refine gk_here ?_
   refine gk_result (L' := C ++ ((Bm, .cells [.map (some b)].toArray 80 (0, 0)) :: (b, ob) :: LB)) (.inr rfl) _ (res0 rfl) sbl gle ?_
   exact ⟨xs, C, hpm, hJ, rfl, rfl⟩
theorem keys_cc (H : Gh) (L : Chunks) (v : Value) (hv : v.oneCell' = true) :
    CC Tryd.prog 49 #[v] H L (fun u H' L' => ∃ Bm, u = .func (.func 75) #[] #[pt Bm 0] ∧ H = H' ∧ (Bm, .cells [v].toArray 80 (0, 0)) :: L = L') := by
 refine cc_of Tryd.func49 rfl (Nat.le_of_ble_eq_true rfl) ?_
 simp only [Tryd.ntmps49]
 refine gc_seq (gc_seqr [(.nm, 0), (.mv, 1)] rfl ?_)
 refine gr_nx rfl rfl rfl (nx_box rfl (one_cells hv)) ?_; rintro _ _ _ _ ⟨b1, rfl, rfl, rfl⟩; refine ⟨trivial, ?_⟩
 refine ga rfl rfl rfl rfl ?_
 refine gr_nil (gk_then ?_)
 refine gc_seq (gc_seqr [(.mv, 0), (.mv, 1)] rfl ?_)
 refine gr_rd rfl rfl rfl (rd_makeFunc1 rfl) ?_
 refine ga rfl rfl rfl rfl ?_
 refine gr_nil (gk_then ?_)
 refine gc_ret ?_
 refine gk_result (L' := (b1, .cells [v].toArray 80 (0, 0)) :: L) (.inl rfl) _ (res1 rfl rfl) sbl gle ?_
 exact ⟨b1, rfl, rfl, rfl⟩

def apRec (As Bs : Code) (fn : FuncId) (tm : Array Value) (D : Nat) (st : LoopState) : Loop := { state := st, pending := none, fn, tmps := tm, params := #[7], assign := As, body := Bs, defers := D }
def ApJ (As Bs : Code) (b2 lp D : Nat) (fn : FuncId) (tm : Array Value) (xs : List Nm) (C : Chunks) : Prop :=
  ∃ v Cv, C = (b2, .cells [v].toArray 29 (0, 0)) :: (lp, .loop (apRec As Bs fn tm D .ready)) :: (D, .deferred (some [])) :: Cv ∧ Ow 34 32 Cv v xs.length (xs.flatMap encId)
theorem wpIn_of_eq {F : Fence} {n : Nat} {P : Program} {Q : Exit → Act → World → Prop} {a : Act} {w : World} {c c' : Code} (h : c = c') (hw : c'.wpIn F n P Q a w) : c.wpIn F n P Q a w := h ▸ hw
set_option maxHeartbeats 2000000 in
theorem append_cc (H : Gh) (LB : Chunks) {Bm b : Nat} {ob : Obj} {m : List (Nm × Value)} (hM : MapO ob m) (hN : m.length < 16777216) :
    CC Tryd.prog 95 #[nilS, .func (.func 75) #[] #[pt Bm 0]] H ((Bm, .cells [.map (some b)].toArray 80 (0, 0)) :: (b, ob) :: LB) (fun v H' L' => ∃ (xs : List Nm) (C : Chunks), xs.Perm (m.map (·.1)) ∧ Ow 34 32 C v xs.length (xs.flatMap encId) ∧ H = H' ∧ C ++ ((Bm, .cells [.map (some b)].toArray 80 (0, 0)) :: (b, ob) :: LB) = L') := by
  intro w hS
  refine callsIn_wide.1 (callsIn_of_wp_marks (F := Fence.wide) (n := 2) Tryd.func95 rfl trivial (wpIn_wide.2 ?_) rfl)
  simp only [Tryd.ntmps95]
  refine (?_ : GC Tryd.prog _ _ 13 (argEnv 0 [nilS, .func (.func 75) #[] #[pt Bm 0]]) H _) _ w (at_args (Nat.le_of_ble_eq_true rfl)) hS
  refine gc_seq (gc_seqr [(.nm, 0), (.mv, 1)] rfl ?_)
  refine gr_nx rfl rfl rfl (nx_box (l := [nilS]) rfl rfl) ?_; rintro _ _ _ _ ⟨b2, rfl, rfl, rfl⟩; refine ⟨trivial, ?_⟩
  refine ga rfl rfl rfl rfl ?_
  refine gr_nil (gk_then ?_)
  refine gc_seq ?_
  refine gc_seq (gc_seqr [(.mv, 0)] rfl ?_)
  refine gm rfl rfl rfl rfl ?_
  refine gr_nil (gk_then ?_)
  refine gc_block ?_
  refine gc_sub (E' := [(2, pt b2 0), (6, .func (.func 75) #[] #[pt Bm 0])]) sbs ?_
  refine gc_rf_open fun As Bs hAs hBs => ?_
  rintro ⟨tm, df⟩ w1 hA hS1
  obtain rfl : df = [] := hA.defers
  refine (wpIn_wide (n := 2)).1 (wpIn_rangeFunc ?_)
  intro fn _
  obtain ⟨D, hD⟩ : ∃ D, w1.heap.size = D := ⟨_, rfl⟩
  obtain ⟨lp, hlp⟩ : ∃ lp, w1.heap.size + 1 = lp := ⟨_, rfl⟩
  obtain ⟨W1, hW1⟩ : ∃ W1, (w1.alloc (.deferred (some []))).alloc (.loop (apRec As Bs fn tm D .ready)) = W1 := ⟨_, rfl⟩
  have hsW : Sat W1 H ((lp, .loop (apRec As Bs fn tm D .ready)) :: (D, .deferred (some [])) :: (b2, .cells [nilS].toArray 29 (0, 0)) :: ((Bm, .cells [.map (some b)].toArray 80 (0, 0)) :: (b, ob) :: LB)) := by
    rw [← hW1, ← hlp, ← hD]
    have h1 := (hS1.new (.deferred (some [])))
    have h2 := h1.new (.loop (apRec As Bs fn tm w1.heap.size .ready))
    have e : (w1.heap.push (.deferred (some []))).size = w1.heap.size + 1 := by simp
    simp only [e] at h2
    exact h2
  have hJ0 : ApJ As Bs b2 lp D fn tm [] [(b2, .cells [nilS].toArray 29 (0, 0)), (lp, .loop (apRec As Bs fn tm D .ready)), (D, .deferred (some []))] := ⟨nilS, [], rfl, Ow.nil⟩
  have hround : ∀ pre x C (L0 : Chunks) w, pre.length < m.length → ApJ As Bs b2 lp D fn tm pre C → Sat w H (C ++ L0) → YieldAt Fence.wide 0 Tryd.prog lp #[ag (encId x)] w fun e w' => e = .returned (.bool true) ∧ ∃ C', ApJ As Bs b2 lp D fn tm (pre ++ [x]) C' ∧ Sat w' H (C' ++ L0) := by
    rintro pre x _ L0 w hlen ⟨v, Cv, rfl, hO⟩ hS
    have hl : w.heap[lp]? = some (.loop (apRec As Bs fn tm D .ready)) := (hS.own (lp, .loop (apRec As Bs fn tm D .ready)) (by simp)).1
    refine ⟨fn, _, As, Bs, by simpa [apRec] using run_yield (P := Tryd.prog) (args := #[ag (encId x)]) hl rfl, roundIn_of_wpIn trivial ?_⟩
    have hA0 : At ⟨tm, []⟩ 13 [(2, pt b2 0), (6, .func (.func 75) #[] #[pt Bm 0])] := ⟨rfl, hA.size, hA.get⟩
    have hA1 : At ⟨tm.setIfInBounds 7 (ag (encId x)), []⟩ 13 [(7, ag (encId x)), (2, pt b2 0), (6, .func (.func 75) #[] #[pt Bm 0])] := hA0.put (d := 7) (by decide) (ag (encId x))
    have key : ∀ (ops : List Oper) (F' : Fence) (Q' : Exit → Act → World → Prop) (E' : Env) (L' : Chunks) (a' : Act) (w' : World) (id : Nat), GI F' 0 Tryd.prog ops.toArray Q' 13 E' ops H L' → At a' 13 E' → Sat w' H L' → (Code.region id ops.toArray false).wpIn F' 0 Tryd.prog Q' a' w' := fun ops F' Q' E' L' a' w' id h h1 h2 => wpIn_region_lit (h a' w' h1 h2)
    refine wpIn_of_eq hAs ?_
    refine key _ _ _ _ _ _ _ _ ?_ hA1 hS
    refine gi_ny ⟨fun _ _ _ => rfl, fun _ h => by cases h⟩ rfl (ny_alloc Tryd.zeroValue34 rfl) ?_; rintro _ _ _ _ ⟨b5, rfl, rfl, rfl⟩
    refine gi_ny0 ⟨fun _ _ _ => rfl, fun _ h => by cases h⟩ (ny_store (vs := encId x) Tryd.sizeOf34 rfl rfl rfl (encId_length _) Upd.here (by simp) (encId_ones _)) ?_; rintro _ _ _ _ ⟨rfl, rfl, rfl⟩
    rw [wr_all (by simp)]
    refine gi_nil ?_
    intro a1 w2 hA2 hS1
    have hl1 : w2.heap[lp]? = some (.loop (apRec As Bs fn tm D .ready)) := (hS1.own (lp, .loop (apRec As Bs fn tm D .ready)) (by simp)).1
    have hS2 := Sat.putObj hS1 (i := 2) rfl (.loop (apRec As Bs fn tm D .busy))
    refine ⟨w2.putObj lp (.loop (apRec As Bs fn tm D .busy)), run_beginRound hl1 rfl, ?_⟩
    refine wpIn_of_eq hBs ?_
    refine wpIn_block ?_
    refine key _ _ _ _ ((b5, .cells (encId x).toArray 34 (0, 0)) :: (b2, .cells [v].toArray 29 (0, 0)) :: (lp, .loop (apRec As Bs fn tm D .busy)) :: (D, .deferred (some [])) :: (Cv ++ L0)) _ _ _ ?_ hA2 hS2
    refine gi_rd (v := v) ⟨fun _ _ _ => rfl, fun _ h => by cases h⟩ rfl (rd_load1 Tryd.to29 rfl (Cells.own (l := [v]) (T := 29) (z := (0, 0)) (by simp)) rfl) ?_
    refine gi_rd (v := ag (encId x)) ⟨fun _ _ _ => rfl, fun _ h => by cases h⟩ rfl (rd_loadA Tryd.ta34 rfl (Cells.own List.mem_cons_self) (Seg.all _) (encId_length _)) ?_
    refine gi_ny ⟨fun _ _ _ => rfl, fun _ h => by cases h⟩ rfl (ny_sliceA1 Tryd.underlying29 Tryd.sizeOf34 Tryd.zeroValue34 rfl rfl rfl (encId_length _) rfl) ?_; rintro _ _ _ _ ⟨b10, rfl, rfl, rfl⟩
    refine gi_ny ⟨fun _ _ _ => rfl, fun _ h => by cases h⟩ rfl (ny_append (m := 1) Tryd.app29_29 rfl rfl hO (Pick.there (Pick.there (Pick.there (Pick.there (Pick.there Pick.here))))) (src_slice (b := b10) (o := 0) (l := encId x) (m := 1) (by simp) (encId_ones _) (fun h => by cases h) (fun _ _ => ⟨rfl, Cells.own List.mem_cons_self, Seg.all _⟩)) (by omega) (by omega)) ?_; rintro v11 _ _ _ ⟨C2, hO2, _, rfl, rfl⟩
    refine gi_ny0 ⟨fun _ _ _ => rfl, fun _ h => by cases h⟩ (ny_store (vs := [v11]) Tryd.sizeOf29 rfl rfl (cells1 (Ow.one hO2)) rfl (Upd.app (Upd.there (Upd.there Upd.here))) (by simp) (oneCells_cons (Ow.one hO2) oneCells_nil)) ?_; rintro _ _ _ _ ⟨rfl, rfl, rfl⟩
    refine gi_nil ?_
    intro a3 w3 _ hS3
    have hS4 := hS3.perm (L' := (b10, .cells (encId x).toArray 34 (0, 0)) :: (b5, .cells (encId x).toArray 34 (0, 0)) :: (lp, .loop (apRec As Bs fn tm D .busy)) :: (b2, .cells [v11].toArray 29 (0, 0)) :: (D, .deferred (some [])) :: (C2 ++ L0)) (by haveI : DecidableEq (Nat × Obj) := fun _ _ => Classical.propDecidable _; rw [List.perm_iff_count]; intro a; simp only [List.count_append, List.count_cons, List.count_nil]; ac_rfl)
    have hS5 := hS4.tail.tail
    have hl3 : w3.heap[lp]? = some (.loop (apRec As Bs fn tm D .busy)) := (hS5.own _ List.mem_cons_self).1
    have hS6 := Sat.putObj hS5 (i := 0) rfl (.loop (apRec As Bs fn tm D .ready))
    refine ⟨_, w3.putObj lp (.loop (apRec As Bs fn tm D .ready)), run_endRound none hl3, rfl, (b2, .cells [v11].toArray 29 (0, 0)) :: (lp, .loop (apRec As Bs fn tm D .ready)) :: (D, .deferred (some [])) :: C2, ⟨v11, C2, rfl, by simpa using hO2⟩, ?_⟩
    exact hS6.perm (List.Perm.swap _ _ _)
  have hgo := keysGo_cc (Bm := Bm) (b := b) H LB hM (ApJ As Bs b2 lp D fn tm) hround _ hJ0 W1 (hsW.perm (by haveI : DecidableEq (Nat × Obj) := fun _ _ => Classical.propDecidable _; rw [List.perm_iff_count]; intro a; simp only [List.count_append, List.count_cons, List.count_nil]; ac_rfl))
  refine ⟨lp, [{ target := .collected D, args := #[] }], W1, { target := .fn (.func 75) #[pt Bm 0], args := #[.func (.yield lp) #[] #[]] }, W1, 75, #[.func (.yield lp) #[] #[]] ++ #[pt Bm 0], W1, ?_, ?_, ?_, ?_, fun _ => (by decide), ?_⟩
  · rw [← hW1, ← hlp, ← hD]; exact run_enterLoop_outer _ _ _ _ _
  · simp [resolve, rangeCall, hA.ev (x := .tmp 6) rfl, Deferred.ofValue]
    rfl
  · intro f' _; trivial
  · have := Tryd.en75 (#[.func (.yield lp) #[] #[]] ++ #[pt Bm 0]) W1
    simpa [invoke] using this
  · refine (callsIn_wide.2 hgo).mono ?_
    rintro e w2 ⟨v0, H', L', rfl, _, hs2, xs, C, hpm, ⟨v, Cv, rfl, hO⟩, rfl, rfl⟩
    have hl2 : w2.heap[lp]? = some (.loop (apRec As Bs fn tm D .ready)) := (hs2.own (lp, .loop (apRec As Bs fn tm D .ready)) (by simp)).1
    have hs3 : Sat _ H ((b2, .cells [v].toArray 29 (0, 0)) :: (lp, .loop (apRec As Bs fn tm D .exhausted)) :: (D, .deferred (some [])) :: (Cv ++ ((Bm, .cells [.map (some b)].toArray 80 (0, 0)) :: (b, ob) :: LB))) := Sat.putObj hs2 (i := 1) rfl (.loop (apRec As Bs fn tm D .exhausted))
    refine ⟨none, w2.putObj lp (.loop (apRec As Bs fn tm D .exhausted)), run_endLoop hl2 (by simp [apRec]), ?_⟩
    simp only [Exit.inBlock, Exit.then]
    have hA3 : At ⟨tm, []⟩ 13 [(2, pt b2 0), (6, .func (.func 75) #[] #[pt Bm 0])] := ⟨rfl, hA.size, hA.get⟩
    have hld : Rd Tryd.prog [(2, pt b2 0), (6, .func (.func 75) #[] #[pt Bm 0])] H [(b2, .cells [v].toArray 29 (0, 0))] (.load 29 (.tmp 2)) 29 v := rd_load1 Tryd.to29 rfl (Cells.own (l := [v]) (T := 29) (z := (0, 0)) List.mem_cons_self) rfl
    refine wp_seq (wp_region_seq [(.mv, 0), (.mv, 1)] rfl ?_)
    refine ⟨v, fun w' hw' => ?_, ?_⟩
    · cases hw'
      exact hld ⟨tm, []⟩ _ 13 hA3 (hs3.sub (Gh.le_refl _) (List.Sublist.cons_cons _ (List.nil_sublist _)))
    refine ⟨v, fun w' hw' => ?_, ?_⟩
    · have hA4 := hA3.put (d := 12) (by decide) v
      exact (rd_assign (P := Tryd.prog) (E := (12, v) :: _) (H := H) (L := []) (x := .tmp 12) (t := 29) rfl) (({ tmps := tm, defers := [] } : Act).put (some 12) v) w' 13 hA4 (by cases hw'; exact hs3.sub (Gh.le_refl _) (List.nil_sublist _))
    show Exit.then _ _ .normal _ _
    simp only [Exit.then]
    refine wp_ret ?_
    have hs4 := hs3.perm (L' := (D, .deferred (some [])) :: (lp, .loop (apRec As Bs fn tm D .exhausted)) :: (b2, .cells [v].toArray 29 (0, 0)) :: (Cv ++ ((Bm, .cells [.map (some b)].toArray 80 (0, 0)) :: (b, ob) :: LB))) (by haveI : DecidableEq (Nat × Obj) := fun _ _ => Classical.propDecidable _; rw [List.perm_iff_count]; intro a; simp only [List.count_append, List.count_cons, List.count_nil]; ac_rfl)
    have hk : (w2.putObj lp (.loop (apRec As Bs fn tm D .exhausted))).heap[D]? = some (.deferred (some [])) := (hs4.own _ List.mem_cons_self).1
    have hs5 := (Sat.putObj hs4 (i := 0) rfl (.deferred none)).tail.tail.tail
    have hA5 := (hA3.put (d := 12) (by decide) v).put (d := 4) (by decide) v
    refine ⟨by simp, .inl ⟨D, _, rfl, run_takeDeferred hk, ?_⟩⟩
    refine ⟨v, ?_, v, H, _, rfl, Gh.le_refl _, hs5, xs, Cv, hpm, hO, rfl, rfl⟩
    have := (res1 (P := Tryd.prog) (E := (4, v) :: (12, v) :: _) (H := H) (L := []) (fn := Tryd.f95) (t := 4) rfl rfl) _ ((w2.putObj lp (.loop (apRec As Bs fn tm D .exhausted))).putObj D (.deferred none)) 13 hA5 (hs5.sub (Gh.le_refl _) (List.nil_sublist _))
    exact this
end Go.Proofs.YtfhldfjknagidaaDoor

