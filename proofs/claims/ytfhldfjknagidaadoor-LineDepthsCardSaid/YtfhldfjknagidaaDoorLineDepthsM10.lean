/-
  slices.Sort and slices.Compact of strings, by the shelf's contracts.
-/
import Derived.Test.YtfhldfjknagidaaDoorLineDepthsM6
import Derived.Test.YtfhldfjknagidaaDoorLineDepthsM8
import Derived.Test.YtfhldfjknagidaaDoorLineDepthsM9
set_option linter.unusedSimpArgs false
set_option linter.unusedVariables false
set_option linter.unnecessarySimpa false
set_option linter.all false
namespace Go.Proofs.YtfhldfjknagidaaDoor
open Go.VK Go.Tr Go.Sort
set_option maxRecDepth 20000
attribute [local irreducible] Go.Tr.sha
def encS (s : Bs) : List Value := [str s]
@[simp] theorem encS_length (s : Bs) : (encS s).length = 1 := rfl
theorem encStr_str (s : Bs) : encStr s = str s := rfl
theorem flatS (ss : List Bs) : ss.flatMap encS = ss.map str := by
  induction ss with
  | nil => rfl
  | cons a r ih => rw [List.flatMap_cons, ih]; rfl
theorem holds_strs {w : World} {b : Nat} {ss : List Bs} {rest : List Value} {T : TypeId} {z : Nat × Nat} (hb : w.heap[b]? = some (.cells (ss.flatMap encS ++ rest).toArray T z)) (hz : z = (0, 0) ∨ (ss.flatMap encS ++ rest).length ≤ z.1) : Holds encStr w b 0 ss.toArray := by
  intro j hj
  have hj2 : j < ss.length := by simpa using hj
  constructor
  · simp only [World.cell?, hb, Nat.zero_add, Option.isSome_none, Bool.false_eq_true, if_false, List.getElem?_toArray]
    rw [List.getElem?_append_left (by rw [flatS]; simpa using hj2), flatS, List.getElem?_map, List.getElem?_eq_getElem hj2, getElem!_pos _ j hj]
    rfl
  · simp only [World.frozen?, hb, Nat.zero_add]
    rcases hz with rfl | hz
    · simp
    · have : ¬ (z.1 ≤ j) := by rw [List.length_append, flatS, List.length_map] at hz; omega
      simp [this]
theorem sat_putStrs {w : World} {H : Gh} {L : Chunks} {b m : Nat} {cs rest : List Value} {T : TypeId} {z : Nat × Nat} (hS : Sat w H ((b, .cells (cs ++ rest).toArray T z) :: L)) (d : List Bs) (hl : d.length = cs.length) (os : Array Obj) :
    Sat (grow (putRow encStr (Sort.ahead w m) b 0 d.toArray) os) H ((b, .cells (d.flatMap encS ++ rest).toArray T z) :: L) := by
  have hb := (hS.own (b, .cells (cs ++ rest).toArray T z) List.mem_cons_self).1
  have hput : Sat (putRow encStr (Sort.ahead w m) b 0 d.toArray) H ((b, .cells (d.flatMap encS ++ rest).toArray T z) :: L) := by
    refine Sat.put (k := 0) (L := (b, .cells (cs ++ rest).toArray T z) :: L) hS rfl _ rfl rfl (Nat.le_add_right _ _) rfl ?_ fun i hi => ?_
    · show (w.heap.modify b _)[b]? = _
      rw [Array.getElem?_modify, if_pos rfl, hb]
      simp only [Option.map_some, onCells]
      congr 2
      apply Array.ext_getElem?
      intro i
      simp only [putCells, Array.getElem?_mapIdx, List.getElem?_toArray, List.size_toArray, Nat.zero_le, true_and, Nat.zero_add, Nat.sub_zero]
      rw [flatS]
      by_cases hi : i < cs.length
      · rw [List.getElem?_append_left hi, List.getElem?_append_left (by simp; omega), List.getElem?_eq_getElem hi, List.getElem?_map, List.getElem?_eq_getElem (by omega)]
        simp only [Option.map_some]
        rw [if_pos (by omega), getElem!_pos _ i (by simp; omega)]
        simp [encStr_str]
      · rw [List.getElem?_append_right (by omega), List.getElem?_append_right (by simp; omega), List.length_map, hl]
        cases rest[i - cs.length]? with
        | none => rfl
        | some v => simp only [Option.map_some]; rw [if_neg (by omega)]
    · show (w.heap.modify b _)[i]? = _
      rw [Array.getElem?_modify, if_neg (fun e => hi e.symm)]
  exact Sat.grow hput os
def sortS (ss : List Bs) : List Bs := ss.mergeSort fun x y => decide (x ≤ y)
theorem sortStr_cc (H : Gh) (L : Chunks) {C : Chunks} {v : Value} {ss : List Bs} (hO : Ow 9 1 C v ss.length (ss.flatMap encS)) (hn : ss.length < 16777216) :
    CC Tryd.prog 87 #[v] H (C ++ L) (fun u H' L' => ∃ C', Ow 9 1 C' v ss.length ((sortS ss).flatMap encS) ∧ u = .tuple #[] ∧ H = H' ∧ C' ++ L = L') := by
  intro w hS
  obtain ⟨hlen, h | ⟨b, cap, rest, z, rfl, hc, hr, rfl, hz⟩⟩ := hO
  · obtain ⟨rfl, h0, rfl⟩ := h
    have hx : ss = [] := List.length_eq_zero_iff.1 h0
    subst hx
    have h := calls_of_every_depth fun D => AnyS.slices_Sort_string_none_alone Tryd.laysSort D none 0 w
    change Calls Tryd.prog 87 _ _ _ at h
    refine h.mono ?_
    rintro e w' ⟨rfl, rfl⟩
    exact ⟨_, H, _, rfl, Gh.le_refl _, hS, [], by simpa [sortS] using Ow.nil, rfl, rfl, rfl⟩
  · have hb := (hS.own (b, .cells (ss.flatMap encS ++ rest).toArray 9 z) (by simp)).1
    have hblk : b < w.heap.size := (Array.getElem?_eq_some_iff.1 hb).1
    have h := calls_of_every_depth fun D => AnyS.slices_Sort_string_alone Tryd.laysSort D b 0 cap ss w (holds_strs hb hz) hblk (by omega)
    change Calls Tryd.prog 87 _ _ _ at h
    refine h.mono ?_
    rintro e w' ⟨rfl, q, os, rfl⟩
    have hsl : (sortS ss).length = ss.length := List.length_mergeSort ss
    have hput := sat_putStrs (m := q) hS (sortS ss) (by rw [hsl, flatS, List.length_map]) os
    have hfl : ((sortS ss).flatMap encS).length = (ss.flatMap encS).length := by rw [flatS, flatS, List.length_map, List.length_map, hsl]
    exact ⟨_, H, _, rfl, Gh.le_refl _, hput, [(b, .cells ((sortS ss).flatMap encS ++ rest).toArray 9 z)], ⟨by rw [hfl]; exact hlen, .inr ⟨b, cap, rest, z, rfl, hc, hr, rfl, by rcases hz with h | h; exact .inl h; exact .inr (by rw [List.length_append, hfl]; simpa using h)⟩⟩, rfl, rfl, rfl⟩
theorem compactStr_cc (H : Gh) (L : Chunks) {C : Chunks} {v : Value} {ss : List Bs} (hO : Ow 9 1 C v ss.length (ss.flatMap encS)) (hn : ss.length < 16777216) :
    CC Tryd.prog 88 #[v] H (C ++ L) (fun u H' L' => ∃ C', Ow 9 1 C' u (Lib.compact ss).length ((Lib.compact ss).flatMap encS) ∧ H = H' ∧ C' ++ L = L') := by
  intro w hS
  obtain ⟨hlen, h | ⟨b, cap, rest, z, rfl, hc, hr, rfl, hz⟩⟩ := hO
  · obtain ⟨rfl, h0, rfl⟩ := h
    have hx : ss = [] := List.length_eq_zero_iff.1 h0
    subst hx
    have h := Any.slices_Compact_string_empty Tryd.laysCompact none 0 w
    change Calls Tryd.prog 88 _ _ _ at h
    refine h.mono ?_
    rintro e w' ⟨rfl, rfl⟩
    exact ⟨_, H, _, rfl, Gh.le_refl _, hS, [], Ow.nil, rfl, rfl⟩
  · have hb := (hS.own (b, .cells (ss.flatMap encS ++ rest).toArray 9 z) (by simp)).1
    have h := Any.slices_Compact_string Tryd.laysCompact b 0 cap ss w (holds_strs hb hz) (by omega) hc
    change Calls Tryd.prog 88 _ _ _ at h
    refine h.mono ?_
    rintro e w' ⟨rfl, q, rfl⟩
    have hle : (Lib.compact ss).length ≤ ss.length := by
      unfold Lib.compact Lib.compactUpTo
      rw [List.length_map]
      exact Nat.le_trans (List.length_filter_le _ _) (by simp)
    have hput := sat_putStrs (m := q) hS (Lib.compact ss ++ List.replicate (ss.length - (Lib.compact ss).length) []) (by rw [flatS, List.length_map, List.length_append, List.length_replicate]; omega) #[]
    rw [grow_empty, List.flatMap_append, List.append_assoc] at hput
    exact ⟨_, H, _, rfl, Gh.le_refl _, hput, [(b, .cells ((Lib.compact ss).flatMap encS ++ ((List.replicate (ss.length - (Lib.compact ss).length) []).flatMap encS ++ rest)).toArray 9 z)], ⟨by rw [flatS]; simp, .inr ⟨b, cap, _, z, rfl, by omega, by rw [flatS, List.length_append, List.length_map, List.length_replicate]; omega, rfl, by
      rcases hz with h | h
      · exact .inl h
      · refine .inr (Nat.le_trans (Nat.le_of_eq ?_) h)
        simp only [flatS, List.length_append, List.length_map, List.length_replicate]
        omega⟩⟩, rfl, rfl⟩
end Go.Proofs.YtfhldfjknagidaaDoor

/-
  Walks: the keys of operations of some kinds.
-/
set_option linter.unusedSimpArgs false
set_option linter.unusedVariables false
set_option linter.unnecessarySimpa false
set_option linter.all false
namespace Go.Proofs.YtfhldfjknagidaaDoor
open Go.VK Go.Tr
set_option maxRecDepth 20000
attribute [local irreducible] Go.Tr.sha
/-- The keys of the operations of some kinds, rising, each once. -/
def keysOf (s : DSet) (ks : List Int) : List Bs := Lib.compact (sortS (((row s).filter fun o => ks.contains o.draft.kind).map (·.draft.key)))
theorem ints_at {H : Gh} {L : Chunks} {b off : Nat} {l : List Value} {a : Option Addr} {xs : List Int} (h1 : xs ≠ [] → a = some ⟨b, off, none⟩ ∧ Cells H L b l) (h2 : ∀ j x, xs[j]? = some x → Seg l (off + j * 1) [i64 x]) {j : Nat} {i : Int} (hj : j < xs.length) (hi : i = (j : Int)) :
    a = some ⟨b, off, none⟩ ∧ Cells H L b l ∧ l[off + i.toNat * 1]? = some (i64 xs[j]) := by
  obtain ⟨h3, h4, h5⟩ := slt_at (enc := fun n : Int => [i64 n]) h1 h2 (List.getElem?_eq_getElem hj) hi
  exact ⟨h3, h4, by have := h5 0 _ rfl; simpa using this⟩
structure KS2 where
  k : Nat
  ss : List Bs
  C : Chunks
  vo : Value
theorem keys_take {ov : List (POp × Value)} {ks : List Int} {k : Nat} (h : k < ov.length) : ((ov.take (k + 1)).filter fun p => ks.contains p.1.draft.kind).map (·.1.draft.key) =
    ((ov.take k).filter fun p => ks.contains p.1.draft.kind).map (·.1.draft.key) ++ (if ks.contains ov[k].1.draft.kind then [ov[k].1.draft.key] else []) := by
  rw [List.take_add_one, List.getElem?_eq_getElem h]
  simp only [Option.toList_some, List.filter_append, List.map_append, List.filter_cons, List.filter_nil]
  split <;> rfl

theorem index_cc (H : Gh) (L : Chunks) (v : Value) (ks : List Int) (n : Int) (hI : Ints H L v ks) :
    CC Tryd.prog 102 #[v, i64 n] H L (fun u H' L' => ∃ r : Int, u = i64 r ∧ decide (0 ≤ r) = ks.contains n ∧ H = H' ∧ L = L') := by
 obtain ⟨A, bi, oi, ci, li, rfl, hci, hni, hi0, hi1, hi2⟩ := hI
 refine cc_of Tryd.func102 rfl (Nat.le_of_ble_eq_true rfl) ?_
 simp only [Tryd.ntmps102]
 refine gc_seq (gc_seqr [(.mv, 0)] rfl ?_)
 refine ga rfl rfl rfl rfl ?_
 refine gr_nil (gk_then ?_)
 refine gc_seq ?_
 refine gc_seq (gc_seqr [(.mv, 0), (.mv, 1), (.mv, 2)] rfl ?_)
 refine gm rfl rfl rfl rfl ?_
 refine gr_rd rfl rfl rfl (rd_lenS Tryd.underlying23 rfl) ?_
 refine gm rfl rfl rfl rfl ?_
 refine gr_nil (gk_then ?_)
 refine gc_block ?_
 refine gc_loop (fun k : Nat => [(0, .slice A ks.length ci), (1, i64 n), (6, .slice A ks.length ci), (7, i64 ks.length), (8, i64 k)]) (fun k H1 L1 => H = H1 ∧ L = L1 ∧ k ≤ ks.length ∧ n ∉ ks.take k) (fun k => ks.length - k) (0) ?_ sbs ?_
 ·exact ⟨rfl, rfl, Nat.zero_le _, by simp⟩
 ·rintro k H1 L1 ⟨rfl, rfl, hk, hno⟩
  show GC _ _ _ _ [(0, .slice A ks.length ci), (1, i64 n), (6, .slice A ks.length ci), (7, i64 ks.length), (8, i64 k)] H L
  refine gc_seq (gc_seqr [(.mv, 0)] rfl ?_)
  refine gr_rd rfl rfl rfl (rd_lss rfl rfl) ?_
  refine gr_nil (gk_then ?_)
  refine gc_seq ?_
  refine gc_cond rfl (fun hcR2 => ?_) (fun hcR2 => ?_)
  ·have hlt : k < ks.length := by simpa using hcR2
   obtain ⟨hA, hca, hsa⟩ := ints_at (i := (k : Int)) hi1 hi2 hlt rfl
   refine gc_skip ?_
   refine gk_then ?_
   refine gc_seq ?_
   refine gc_block ?_
   refine gc_seq (gc_seqr [(.mv, 0), (.mv, 1)] rfl ?_)
   refine gm rfl rfl rfl rfl ?_
   refine ga rfl rfl rfl rfl ?_
   refine gr_nil (gk_then ?_)
   refine gc_seq (gc_seqr [(.mv, 0), (.mv, 1), (.mv, 2), (.mv, 3), (.mv, 4), (.mv, 5)] rfl ?_)
   refine gm rfl rfl rfl rfl ?_
   refine gm rfl rfl rfl rfl ?_
   refine gm rfl rfl rfl rfl ?_
   refine gr_rd rfl rfl rfl (rd_indexS Tryd.underlying23 Tryd.sizeOf3 rfl rfl hA (by omega) (by omega)) ?_
   refine gr_rd rfl rfl rfl (rd_load1 Tryd.to3 rfl hca hsa) ?_
   refine gr_rd rfl rfl rfl (rd_eql rfl rfl) ?_
   refine gr_nil (gk_then ?_)
   refine gc_cond rfl (fun hcR4 => ?_) (fun hcR4 => ?_)
   ·have hnk : n = ks[k] := by simpa using hcR4
    refine gc_seq (gc_seqr [(.mv, 0), (.mv, 1)] rfl ?_)
    refine gm rfl rfl rfl rfl ?_
    refine ga rfl rfl rfl rfl ?_
    refine gr_nil (gk_then ?_)
    refine gc_ret ?_
    refine gk_ret_inBlock ?_
    refine gk_ret_then ?_
    refine gk_ret_then ?_
    refine gk_ret_inBlock ?_
    refine gk_ret_then ?_
    refine gk_result (L' := L) (.inl rfl) _ (res1 rfl rfl) sbl gle ?_
    exact ⟨k, rfl, by rw [decide_eq_true (by omega)]; rw [hnk]; exact (List.contains_iff_mem.2 (List.getElem_mem hlt)).symm, rfl, rfl⟩
   ·skip
    refine gc_skip ?_
    refine gk_inBlock ?_
    refine gk_then ?_
    refine gc_seqr [(.mv, 0), (.mv, 1)] rfl ?_
    (first | refine gr_rd rfl rfl rfl (rd_add rfl rfl (IntWalk.i64_in _ (by omega))) ?_ | refine gr_rd rfl rfl rfl (rd_add rfl rfl rfl) ?_)
    refine gm rfl rfl rfl rfl ?_
    refine gr_nil ?_
    refine gk_round (k + 1) ?_ ⟨rfl, rfl, by omega, ?_⟩ sbs
    · show ks.length - (k + 1) < ks.length - k
      omega
    · rw [List.take_add_one, List.getElem?_eq_getElem hlt]
      simp only [Option.toList_some, List.mem_append, List.mem_singleton, not_or]
      exact ⟨hno, by simpa using hcR4⟩
  ·have hge : k = ks.length := by simp at hcR2; omega
   subst hge
   rw [List.take_length] at hno
   refine gc_exit ?_
   refine gk_exit_then ?_
   refine gk_exit_then ?_
   refine gk_here ?_
   refine gk_then ?_
   refine gc_seq (gc_seqr [(.mv, 0)] rfl ?_)
   refine ga rfl rfl rfl rfl ?_
   refine gr_nil (gk_then ?_)
   refine gc_ret ?_
   refine gk_result (L' := L) (.inl rfl) _ (res1 rfl rfl) sbl gle ?_
   exact ⟨-1, rfl, by rw [decide_eq_false (by decide)]; cases hc : ks.contains n with | false => rfl | true => exact absurd (List.contains_iff_mem.1 hc) hno, rfl, rfl⟩
theorem contains_cc (H : Gh) (L : Chunks) (v : Value) (ks : List Int) (n : Int) (hI : Ints H L v ks) :
    CC Tryd.prog 84 #[v, i64 n] H L (fun u H' L' => u = .bool (ks.contains n) ∧ H = H' ∧ L = L') := by
 refine cc_of Tryd.func84 rfl (Nat.le_of_ble_eq_true rfl) ?_
 simp only [Tryd.ntmps84]
 refine gc_seq (gc_seqr [(.mv, 0)] rfl ?_)
 refine ga rfl rfl rfl rfl ?_
 refine gr_nil (gk_then ?_)
 refine gc_seq (gc_seqr [(.mv, 0), (.mv, 1), (.nm, 2), (.mv, 3), (.mv, 4)] rfl ?_)
 refine gm rfl rfl rfl rfl ?_
 refine gm rfl rfl rfl rfl ?_
 refine gr_nx rfl rfl rfl (nx_call Tryd.en102 rfl (index_cc _ _ v ks n hI)) ?_; rintro v7 H' L' hle ⟨r, rfl, hr, rfl, rfl⟩; refine ⟨trivial, ?_⟩
 refine gr_rd rfl rfl rfl (rd_geq rfl rfl) ?_
 rw [hr]
 refine ga rfl rfl rfl rfl ?_
 refine gr_nil (gk_then ?_)
 refine gc_ret ?_
 refine gk_result (L' := L) (.inl rfl) _ (res1 rfl rfl) sbl gle ?_
 exact ⟨rfl, rfl, rfl⟩
set_option maxHeartbeats 1000000 in
theorem keys2_cc (H : Gh) (L : Chunks) {b bo bw bt : Nat} {s : DSet} {ob ow ot : Obj} (hR : DRep H s ob ow ot) (hC : Closed FitO s) (hz : s.ops.length < 16777216) (vk : Value) (ks : List Int) (hI : Ints H L vk ks) :
    CC Tryd.prog 69 #[pt b 0, vk] H ((b, .cells [.map (some bo), .map (some bw), .map (some bt)].toArray 83 (0, 0)) :: (bo, ob) :: (bw, ow) :: (bt, ot) :: L) (fun u H' L' => ∃ C, Ow 9 1 C u (keysOf s ks).length ((keysOf s ks).flatMap encS) ∧ C ++ ((b, .cells [.map (some bo), .map (some bw), .map (some bt)].toArray 83 (0, 0)) :: (bo, ob) :: (bw, ow) :: (bt, ot) :: L) = L') := by
 refine cc_of Tryd.func69 rfl (Nat.le_of_ble_eq_true rfl) ?_
 simp only [Tryd.ntmps69]
 refine gc_seq (gc_seqr [(.mv, 0)] rfl ?_)
 refine ga rfl rfl rfl rfl ?_
 refine gr_nil (gk_then ?_)
 refine gc_seq (gc_seqr [(.mv, 0)] rfl ?_)
 refine ga rfl rfl rfl rfl ?_
 refine gr_nil (gk_then ?_)
 refine gc_seq ?_
 refine gc_seq (gc_seqr [(.mv, 0), (.nm, 1), (.mv, 2), (.mv, 3)] rfl ?_)
 refine gm rfl rfl rfl rfl ?_
 refine gr_nx rfl rfl rfl (nx_call Tryd.en39 rfl (row_cc _ _ hR hC hz)) ?_; rintro v9 H' L' hle ⟨ov, Cr, hOr, hovm, hov, rfl⟩; refine ⟨trivial, ?_⟩
 obtain ⟨Ar, cr, rfl, hcr⟩ := hOr.slice
 replace hI := hI.mono (L' := L) hle (fun x hx => hx)
 have hovl : ov.length = s.ops.length := by have := congrArg List.length hovm; simpa [row, order_length] using this
 obtain ⟨HH, hHH⟩ : ∃ HH, H' = HH := ⟨_, rfl⟩
 subst hHH
 refine gr_rd rfl rfl rfl (rd_lenS Tryd.underlying25 rfl) ?_
 refine gm rfl rfl rfl rfl ?_
 refine gr_nil (gk_then ?_)
 refine gc_block ?_
 refine gc_loop (fun t : KS2 => [(0, pt b 0), (1, vk), (5, t.vo), (9, .slice Ar ov.length cr), (10, i64 ov.length), (11, i64 t.k)]) (fun t H1 L1 => H' = H1 ∧ t.C ++ (Cr ++ ((b, .cells [.map (some bo), .map (some bw), .map (some bt)].toArray 83 (0, 0)) :: (bo, ob) :: (bw, ow) :: (bt, ot) :: L)) = L1 ∧ Ow 9 1 t.C t.vo t.ss.length (t.ss.flatMap encS) ∧ t.ss = ((ov.take t.k).filter fun p => ks.contains p.1.draft.kind).map (·.1.draft.key) ∧ t.k ≤ ov.length ∧ t.ss.length ≤ t.k) (fun t => ov.length - t.k) (⟨0, [], [], nilS⟩) ?_ sbs ?_
 ·exact ⟨rfl, rfl, Ow.nil, rfl, Nat.zero_le _, Nat.le_refl _⟩
 ·rintro ⟨k, ss, C, vo⟩ H1 L1 ⟨rfl, rfl, hO, hss, hk, hsl⟩
  simp only at hO hss hk hsl
  show GC _ _ _ _ [(0, pt b 0), (1, vk), (5, vo), (9, .slice Ar ov.length cr), (10, i64 ov.length), (11, i64 k)] H' (C ++ (Cr ++ ((b, .cells [.map (some bo), .map (some bw), .map (some bt)].toArray 83 (0, 0)) :: (bo, ob) :: (bw, ow) :: (bt, ot) :: L)))
  refine gc_seq (gc_seqr [(.mv, 0)] rfl ?_)
  refine gr_rd rfl rfl rfl (rd_lss rfl rfl) ?_
  refine gr_nil (gk_then ?_)
  refine gc_seq ?_
  refine gc_cond rfl (fun hcR3 => ?_) (fun hcR3 => ?_)
  ·have hlt : k < ov.length := by simpa using hcR3
   obtain ⟨p, hpe⟩ : ∃ p, ov[k] = p := ⟨_, rfl⟩
   have hp : ov[k]? = some p := by rw [List.getElem?_eq_getElem hlt, hpe]
   obtain ⟨_, bn, on, cn2, ln, hne, hcn2, hnn, hn0, hn1, hn2⟩ := (Ow.slT (H := H') (L := C ++ (Cr ++ ((b, .cells [.map (some bo), .map (some bw), .map (some bt)].toArray 83 (0, 0)) :: (bo, ob) :: (bw, ow) :: (bt, ot) :: L))) (xs := ov) encOpV_length hOr rfl (by omega) (by intro x hx; simp [hx]))
   cases hne
   obtain ⟨hAe, hca, hsa⟩ := slt_at (i := (k : Int)) hn1 hn2 hp rfl
   have hpi := hov p (List.mem_of_getElem? hp)
   refine gc_skip ?_
   refine gk_then ?_
   refine gc_seq ?_
   refine gc_block ?_
   refine gc_seq (gc_seqr [(.mv, 0), (.mv, 1), (.nm, 2), (.nm, 3)] rfl ?_)
   refine gr_rd rfl rfl rfl (rd_indexS Tryd.underlying25 Tryd.sizeOf38 rfl rfl hAe (by omega) (by omega)) ?_
   refine gr_rd rfl rfl rfl (rd_loadA Tryd.ta38 rfl hca hsa (encOpV_length _)) ?_
   refine gr_nx rfl rfl rfl (nx_alloc Tryd.zeroValue38 rfl) ?_; rintro _ _ _ _ ⟨b7, rfl, rfl, rfl⟩; refine ⟨trivial, ?_⟩
   refine gr_nx0 rfl rfl (nx_store (vs := encOpV p) Tryd.sizeOf38 rfl rfl rfl (encOp_length _ _) upd (by simp) (encOp_ones _ hpi.one)) ?_; rintro _ _ _ _ ⟨rfl, rfl, rfl⟩; refine ⟨trivial, ?_⟩
   rw [wr_all (by simp)]
   refine gr_nil (gk_then ?_)
   refine gc_seq (gc_seqr [(.mv, 0), (.mv, 1), (.mv, 2), (.mv, 3), (.nm, 4)] rfl ?_)
   refine gm rfl rfl rfl rfl ?_
   refine gr_rd rfl rfl rfl (rd_fieldAddr Tryd.fa38_0 rfl) ?_
   refine gr_rd rfl rfl rfl (rd_fieldAddr Tryd.fa36_0 rfl) ?_
   refine gr_rd rfl rfl rfl (rd_load1 Tryd.to3 rfl (Cells.own (l := encOpV p) (T := 38) (z := (0, 0)) (by simp [baseL])) (encOp_0 _ _)) ?_
   refine gr_nx rfl rfl rfl (nx_call Tryd.en84 rfl (contains_cc _ _ vk ks _ (hI.mono (Gh.le_refl _) (by intro x hx; simp [hx])))) ?_; rintro v19 H' L' hle ⟨rfl, rfl, rfl⟩; refine ⟨trivial, ?_⟩
   refine gr_nil (gk_then ?_)
   refine gc_cond rfl (fun hcR5 => ?_) (fun hcR5 => ?_)
   ·skip
    refine gc_seqr [(.mv, 0), (.mv, 1), (.mv, 2), (.mv, 3), (.nm, 4), (.nm, 5), (.mv, 6)] rfl ?_
    refine gm rfl rfl rfl rfl ?_
    refine gr_rd rfl rfl rfl (rd_fieldAddr Tryd.fa38_0 rfl) ?_
    refine gr_rd rfl rfl rfl (rd_fieldAddr Tryd.fa36_1 rfl) ?_
    refine gr_rd rfl rfl rfl (rd_load1 Tryd.to9 rfl (Cells.own (l := encOpV p) (T := 38) (z := (0, 0)) (by simp [baseL])) (encOp_1 _ _)) ?_
    refine gr_nx rfl rfl rfl (nx_slice1 (vs := [_]) Tryd.underlying69 Tryd.sizeOf9 Tryd.zeroValue9 rfl rfl rfl (by first | exact oneCells_of_all rfl | assumption) rfl rfl) ?_; rintro _ _ _ _ ⟨b24, rfl, rfl, rfl⟩; refine ⟨trivial, ?_⟩
    refine gr_nx rfl rfl rfl (nx_append (m := 1) Tryd.app69_69 rfl rfl hO pik (src_slice (b := b24) (o := 0) (l := encS p.1.draft.key) (m := 1) rfl (oneCells_of_all rfl) (fun h => by cases h) (fun _ _ => ⟨rfl, Cells.own List.mem_cons_self, Seg.all _⟩)) (by omega) (by omega)) ?_; rintro v25 H' L' hle ⟨C2, hO2, _, rfl, rfl⟩; refine ⟨trivial, ?_⟩
    refine ga rfl rfl rfl rfl ?_
    refine gr_nil ?_
    refine gk_inBlock ?_
    refine gk_then ?_
    refine gc_seqr [(.mv, 0), (.mv, 1)] rfl ?_
    (first | refine gr_rd rfl rfl rfl (rd_add rfl rfl (IntWalk.i64_in _ (by omega))) ?_ | refine gr_rd rfl rfl rfl (rd_add rfl rfl rfl) ?_)
    refine gm rfl rfl rfl rfl ?_
    refine gr_nil ?_
    first
      | (refine gk_drop (L' := C2 ++ (Cr ++ ((b, .cells [.map (some bo), .map (some bw), .map (some bt)].toArray 83 (0, 0)) :: (bo, ob) :: (bw, ow) :: (bt, ot) :: L))) sbl ?_
         refine gk_round ⟨k + 1, ss ++ [p.1.draft.key], C2, _⟩ ?_ ⟨rfl, rfl, by simpa using hO2, by simp only; rw [keys_take hlt, hpe, if_pos hcR5, ← hss], by simp only; omega, by simp only [List.length_append, List.length_cons, List.length_nil]; omega⟩ sbs
         show ov.length - (k + 1) < ov.length - k
         omega)
      | (refine gk_drop (L' := C ++ (Cr ++ ((b, .cells [.map (some bo), .map (some bw), .map (some bt)].toArray 83 (0, 0)) :: (bo, ob) :: (bw, ow) :: (bt, ot) :: L))) sbl ?_
         refine gk_round ⟨k + 1, ss, C, _⟩ ?_ ⟨rfl, rfl, hO, by simp only; rw [keys_take hlt, hpe, if_neg (by rw [hcR5]; decide), List.append_nil, ← hss], by simp only; omega, by simp only; omega⟩ sbs
         show ov.length - (k + 1) < ov.length - k
         omega)
   ·skip
    refine gc_skip ?_
    refine gk_inBlock ?_
    refine gk_then ?_
    refine gc_seqr [(.mv, 0), (.mv, 1)] rfl ?_
    (first | refine gr_rd rfl rfl rfl (rd_add rfl rfl (IntWalk.i64_in _ (by omega))) ?_ | refine gr_rd rfl rfl rfl (rd_add rfl rfl rfl) ?_)
    refine gm rfl rfl rfl rfl ?_
    refine gr_nil ?_
    first
      | (refine gk_drop (L' := C2 ++ (Cr ++ ((b, .cells [.map (some bo), .map (some bw), .map (some bt)].toArray 83 (0, 0)) :: (bo, ob) :: (bw, ow) :: (bt, ot) :: L))) sbl ?_
         refine gk_round ⟨k + 1, ss ++ [p.1.draft.key], C2, _⟩ ?_ ⟨rfl, rfl, by simpa using hO2, by simp only; rw [keys_take hlt, hpe, if_pos hcR5, ← hss], by simp only; omega, by simp only [List.length_append, List.length_cons, List.length_nil]; omega⟩ sbs
         show ov.length - (k + 1) < ov.length - k
         omega)
      | (refine gk_drop (L' := C ++ (Cr ++ ((b, .cells [.map (some bo), .map (some bw), .map (some bt)].toArray 83 (0, 0)) :: (bo, ob) :: (bw, ow) :: (bt, ot) :: L))) sbl ?_
         refine gk_round ⟨k + 1, ss, C, _⟩ ?_ ⟨rfl, rfl, hO, by simp only; rw [keys_take hlt, hpe, if_neg (by rw [hcR5]; decide), List.append_nil, ← hss], by simp only; omega, by simp only; omega⟩ sbs
         show ov.length - (k + 1) < ov.length - k
         omega)
  ·have hge : k = ov.length := by simp at hcR3; omega
   subst hge
   rw [List.take_length] at hss
   have hk2 : ss = ((row s).filter fun o => ks.contains o.draft.kind).map (·.draft.key) := by
     rw [hss, ← hovm, List.filter_map, List.map_map]; rfl
   refine gc_exit ?_
   refine gk_exit_then ?_
   refine gk_exit_then ?_
   refine gk_here ?_
   refine gk_then ?_
   refine gc_seq (gc_seqr [(.mv, 0), (.nm, 1)] rfl ?_)
   refine gm rfl rfl rfl rfl ?_
   refine gr_nx rfl rfl rfl (nx_call Tryd.en87 rfl (sortStr_cc _ _ hO (by omega))) ?_; rintro v28 H' L' hle ⟨Cs, hOs, rfl, rfl, rfl⟩; refine ⟨trivial, ?_⟩
   refine gr_nil (gk_then ?_)
   refine gc_seq (gc_seqr [(.mv, 0), (.nm, 1), (.mv, 2)] rfl ?_)
   refine gm rfl rfl rfl rfl ?_
   refine gr_nx rfl rfl rfl (nx_call Tryd.en88 rfl (compactStr_cc _ _ (ss := sortS ss) (by rw [show (sortS ss).length = ss.length from List.length_mergeSort ss]; exact hOs) (by rw [show (sortS ss).length = ss.length from List.length_mergeSort ss]; omega))) ?_; rintro v30 H' L' hle ⟨Cc, hOc, rfl, rfl⟩; refine ⟨trivial, ?_⟩
   refine ga rfl rfl rfl rfl ?_
   refine gr_nil (gk_then ?_)
   refine gc_ret ?_
   refine gk_drop (L' := Cc ++ ((b, .cells [.map (some bo), .map (some bw), .map (some bt)].toArray 83 (0, 0)) :: (bo, ob) :: (bw, ow) :: (bt, ot) :: L)) sbl ?_
   refine gk_result (L' := Cc ++ ((b, .cells [.map (some bo), .map (some bw), .map (some bt)].toArray 83 (0, 0)) :: (bo, ob) :: (bw, ow) :: (bt, ot) :: L)) (.inl rfl) _ (res1 rfl rfl) (List.Sublist.refl _) gle ?_
   exact ⟨Cc, by rw [keysOf, ← hk2]; exact hOc, rfl⟩
end Go.Proofs.YtfhldfjknagidaaDoor

/-
  Walks: in the row depths never fall, and names of one depth rise.
-/
set_option linter.unusedSimpArgs false
set_option linter.unusedVariables false
set_option linter.unnecessarySimpa false
set_option linter.all false
namespace Go.Proofs.YtfhldfjknagidaaDoor
open Go.VK Go.Tr
set_option maxRecDepth 100000
def opA0 : POp := ⟨drA, 0, 1, []⟩
def opA1 : POp := ⟨drA, 1, 1, []⟩
theorem a0_ne_a1 : nameOf opA0 ≠ nameOf opA1 := by
  intro h
  have h2 : (nameOf opA0).bytes.getD 0 0 = (nameOf opA1).bytes.getD 0 0 := by rw [h]
  revert h2
  decide +kernel
attribute [local irreducible] Go.Tr.sha
def setA0 : DSet := ⟨[(nameOf opA0, opA0)], []⟩
def setA1 : DSet := ⟨[(nameOf opA0, opA0), (nameOf opA1, opA1)], []⟩
theorem takeA0 : take DSet.empty opA0 = (setA0, [nameOf opA0], 0) := by
  have hg : good opA0 = true := by decide
  rw [take, if_neg (by rw [hg]; decide), if_neg (by simp [has, DSet.empty]), if_neg (by rw [opA0, whole_nil]; decide), if_neg (by rw [opA0]; decide)]
  rfl
theorem takeA1 : take setA0 opA1 = (setA1, [nameOf opA1], 0) := by
  have hg : good opA1 = true := by decide
  have hne := a0_ne_a1
  rw [take, if_neg (by rw [hg]; decide), if_neg (by simp [has, setA0, hne]), if_neg (by rw [opA1, whole_nil]; decide), if_neg (by rw [opA1]; decide)]
  rfl
theorem fitA0 : FitO opA0 := ⟨⟨by decide, by decide, by decide⟩, by decide, by decide, by decide⟩
theorem fitA1 : FitO opA1 := ⟨⟨by decide, by decide, by decide⟩, by decide, by decide, by decide⟩
theorem order_nodup {P : POp → Prop} {s : DSet} (hC : Closed P s) : (order s).Nodup := by
  rw [order, (inRow_perm _ _).nodup_iff]
  exact rising_nodup (List.nodup_append.1 hC.nd).1
theorem order_has {s : DSet} {n : Nm} (h : n ∈ order s) : has s.ops n = true := names_has.1 ((inRow_perm _ _).mem_iff.1 h)
theorem opAt_get {s : DSet} {n : Nm} (h : has s.ops n = true) : Tr.get s.ops n = some (opAt s n) := by
  rw [← get_isSome] at h
  obtain ⟨o, ho⟩ := Option.isSome_iff_exists.1 h
  rw [opAt, ho]; rfl
theorem row_before {P : POp → Prop} {s : DSet} (hC : Closed P s) {i j : Nat} {x y : Nm} (hi : (order s)[i]? = some x) (hj : (order s)[j]? = some y) (hij : i < j) : beforeB (opAt s x) (opAt s y) = true := by
  obtain ⟨hil, hix⟩ := List.getElem?_eq_some_iff.1 hi
  obtain ⟨hjl, hjy⟩ := List.getElem?_eq_some_iff.1 hj
  have h1 : ltOf (cmpD (depthAt s)) y x = false := by
    rw [← hix, ← hjy]
    exact List.pairwise_iff_getElem.1 (inRow_sorted (depthAt s) (names s)) i j hil hjl hij
  have hne : x ≠ y := by
    rw [← hix, ← hjy]
    exact fun e => absurd ((List.getElem_inj (order_nodup hC)).1 e) (by omega)
  have h2 : ltOf (cmpD (depthAt s)) x y = true := by
    cases h : ltOf (cmpD (depthAt s)) x y with
    | true => rfl
    | false => exact absurd (anti_cmpD _ h h1) hne
  have hx := hC.get (opAt_get (order_has (List.mem_of_getElem? hi)))
  have hy := hC.get (opAt_get (order_has (List.mem_of_getElem? hj)))
  rw [beforeB, opAt_depth, opAt_depth, hx.1, hy.1]
  rcases ltD_iff.1 h2 with h3 | ⟨h3, h4⟩
  · rw [decide_eq_true h3]; rfl
  · rw [h3, beq_self_eq_true]
    have h5 : cmp x y < 0 := ltN_iff.1 h4
    rw [decide_eq_true h5]
    simp
theorem setA_row (n : Nm) (h : n ∈ order setA1) : (opAt setA1 n).draft = drA := by
  have h1 := get_mem (opAt_get (order_has h))
  rw [show setA1.ops = [(nameOf opA0, opA0), (nameOf opA1, opA1)] from rfl] at h1
  simp only [List.mem_cons, List.not_mem_nil, or_false] at h1
  rcases h1 with h1 | h1
  · rw [(Prod.mk.inj h1).2]; rfl
  · rw [(Prod.mk.inj h1).2]; rfl
theorem order_two : (order setA1).length = 2 := by rw [order_length]; rfl
theorem keys_one : (keysOf setA1 [1]).length = 1 := by
  have hl : (row setA1).length = 2 := by rw [row, List.length_map, order_two]
  have hd : ∀ o ∈ row setA1, o.draft = drA := fun o ho => by
    obtain ⟨n, hn, rfl⟩ := List.mem_map.1 ho
    exact setA_row n hn
  have hk : ((row setA1).filter fun o => ([1] : List Int).contains o.draft.kind).map (·.draft.key) = [keyK, keyK] := by
    rw [List.filter_eq_self.2 fun o ho => by rw [hd o ho]; decide]
    match hr : row setA1, hl with
    | [x, y], _ =>
      rw [hr] at hd
      simp [hd x (by simp), hd y (by simp), drA]
  have hs : sortS [keyK, keyK] = [keyK, keyK] := (List.perm_replicate (n := 2) (a := keyK)).1 (List.mergeSort_perm _ _)
  rw [keysOf, hk, hs]
  decide

set_option maxHeartbeats 2000000 in
theorem alive11_cc (H : Gh) (hG : Glob H) (L : Chunks) :
    CC Tryd.prog 36 #[] H L (fun v H' L' => v = .bool true ∧ L = L') := by
 have hLE := Gh.le_refl H
 refine cc_of Tryd.func36 rfl (Nat.le_of_ble_eq_true rfl) ?_
 simp only [Tryd.ntmps36]
 refine gc_seq (gc_seqr [(.mv, 0)] rfl ?_)
 refine ga rfl rfl rfl rfl ?_
 refine gr_nil (gk_then ?_)
 refine gc_seq (gc_seqr [(.nm, 0), (.mv, 1)] rfl ?_)
 refine gr_nx rfl rfl rfl (nx_call Tryd.en12 rfl (new_cc _ _)) ?_; rintro v5 H' L' hle ⟨b, bo, bw, bt, ob0, ow0, ot0, rfl, hR0, rfl, rfl⟩; refine ⟨trivial, ?_⟩
 refine ga rfl rfl rfl rfl ?_
 refine gr_nil (gk_then ?_)
 refine gc_seq (gc_seqr [(.mv, 0), (.mv, 1), (.nm, 2), (.nm, 3)] rfl ?_)
 refine gr_rd rfl rfl rfl (rd_build Tryd.bt36 (ps := [(0, i64 1), (1, str keyK)]) (l := encDraft drA) rfl rfl) ?_
 refine gr_rd rfl rfl rfl (rd_build Tryd.bt38 (ps := [(0, ag (encDraft drA)), (2, i64 1)]) (l := encOp opA0 nilS) rfl rfl) ?_
 refine gr_nx rfl rfl rfl (nx_alloc Tryd.zeroValue38 rfl) ?_; rintro _ _ _ _ ⟨b2, rfl, rfl, rfl⟩; refine ⟨trivial, ?_⟩
 refine gr_nx0 rfl rfl (nx_store (vs := encOp opA0 nilS) Tryd.sizeOf38 rfl rfl rfl (encOp_length _ _) upd (by simp) (encOp_ones _ rfl)) ?_; rintro _ _ _ _ ⟨rfl, rfl, rfl⟩; refine ⟨trivial, ?_⟩
 rw [wr_all (by simp)]
 refine gr_nil (gk_then ?_)
 refine gc_seq (gc_seqr [(.mv, 0), (.nm, 1), (.nm, 2)] rfl ?_)
 refine gr_rd rfl rfl rfl (rd_loadA Tryd.ta38 rfl (Cells.own (l := encOp opA0 nilS) (T := 38) (z := (0, 0)) (by simp [baseL])) (Seg.all _) (encOp_length _ _)) ?_
 refine gr_nx rfl rfl rfl (nx_alloc Tryd.zeroValue38 rfl) ?_; rintro _ _ _ _ ⟨b3, rfl, rfl, rfl⟩; refine ⟨trivial, ?_⟩
 refine gr_nx0 rfl rfl (nx_store (vs := encOp opA0 nilS) Tryd.sizeOf38 rfl rfl rfl (encOp_length _ _) upd (by simp) (encOp_ones _ rfl)) ?_; rintro _ _ _ _ ⟨rfl, rfl, rfl⟩; refine ⟨trivial, ?_⟩
 rw [wr_all (by simp)]
 refine gr_nil (gk_then ?_)
 refine gc_seq (gc_seqr [(.mv, 0), (.nm, 1)] rfl ?_)
 refine gr_rd rfl rfl rfl (rd_fieldAddr Tryd.fa38_1 rfl) ?_
 refine gr_nx0 rfl rfl (nx_store (vs := [i64 1]) Tryd.sizeOf3 rfl rfl rfl (rfl) upd (by simp) (oneCells_of_all rfl)) ?_; rintro _ _ _ _ ⟨rfl, rfl, rfl⟩; refine ⟨trivial, ?_⟩
 rw [show wr (encOp opA0 nilS) 35 [i64 1] = encOp opA1 nilS from rfl]
 refine gr_nil (gk_then ?_)
 refine gc_seq (gc_seqr [(.mv, 0), (.mv, 1), (.nm, 2)] rfl ?_)
 refine gm rfl rfl rfl rfl ?_
 refine gr_rd rfl rfl rfl (rd_loadA Tryd.ta38 rfl (Cells.own (l := encOp opA0 nilS) (T := 38) (z := (0, 0)) (by simp [baseL])) (Seg.all _) (encOp_length _ _)) ?_
 refine gr_perm (L' := ((b, .cells [.map (some bo), .map (some bw), .map (some bt)].toArray 83 (0, 0)) :: (bo, ob0) :: (bw, ow0) :: (bt, ot0) :: ((b3, .cells (encOp opA1 nilS).toArray 38 (0, 0)) :: (b2, .cells (encOp opA0 nilS).toArray 38 (0, 0)) :: L))) (by haveI : DecidableEq (Nat × Obj) := fun _ _ => Classical.propDecidable _; rw [List.perm_iff_count]; intro a; simp only [List.count_append, List.count_cons, List.count_nil]; ac_rfl) ?_
 refine gr_nx rfl rfl rfl (nx_call Tryd.en13 rfl (take_cc _ hG _ hR0 (by decide) opA0 nilS SlT.nil fitA0.small)) ?_; rintro v12 H' L' hle ⟨ob1, ow1, ot1, C1, v1, hR1, hO1, rfl, rfl⟩; refine ⟨trivial, ?_⟩
 rw [takeA0] at hR1
 have hLE := Gh.le_trans hLE hle
 replace hG := hG.mono hle
 refine gr_drop (L' := ((b, .cells [.map (some bo), .map (some bw), .map (some bt)].toArray 83 (0, 0)) :: (bo, ob1) :: (bw, ow1) :: (bt, ot1) :: ((b3, .cells (encOp opA1 nilS).toArray 38 (0, 0)) :: (b2, .cells (encOp opA0 nilS).toArray 38 (0, 0)) :: L))) (List.sublist_append_right _ _) ?_
 refine gr_nil (gk_then ?_)
 refine gc_seq (gc_seqr [(.mv, 0), (.mv, 1), (.nm, 2)] rfl ?_)
 refine gm rfl rfl rfl rfl ?_
 refine gr_rd rfl rfl rfl (rd_loadA Tryd.ta38 rfl (Cells.own (l := encOp opA1 nilS) (T := 38) (z := (0, 0)) (by simp [baseL])) (Seg.all _) (encOp_length _ _)) ?_
 refine gr_nx rfl rfl rfl (nx_call Tryd.en13 rfl (take_cc _ hG _ hR1 (by decide) opA1 nilS SlT.nil fitA1.small)) ?_; rintro v15 H' L' hle ⟨ob, ow, ot, C2, v2, hR, hO2, rfl, rfl⟩; refine ⟨trivial, ?_⟩
 rw [takeA1] at hR
 have hLE := Gh.le_trans hLE hle
 replace hG := hG.mono hle
 refine gr_drop (L' := ((b, .cells [.map (some bo), .map (some bw), .map (some bt)].toArray 83 (0, 0)) :: (bo, ob) :: (bw, ow) :: (bt, ot) :: ((b3, .cells (encOp opA1 nilS).toArray 38 (0, 0)) :: (b2, .cells (encOp opA0 nilS).toArray 38 (0, 0)) :: L))) (List.sublist_append_right _ _) ?_
 have hC : Closed FitO setA1 := by
   have h1 := ((Closed.empty FitO).take fitA0)
   rw [takeA0] at h1
   have h2 := h1.take fitA1
   rw [takeA1] at h2
   exact h2
 refine gr_nil (gk_then ?_)
 refine gc_seq (gc_seqr [(.mv, 0), (.nm, 1), (.mv, 2)] rfl ?_)
 refine gm rfl rfl rfl rfl ?_
 refine gr_nx rfl rfl rfl (nx_call Tryd.en39 rfl (row_cc _ _ hR hC (by decide))) ?_; rintro v17 H' L' hle ⟨ov, Cr, hOr, hovm, hov, rfl⟩; refine ⟨trivial, ?_⟩
 have hLE := Gh.le_trans hLE hle
 replace hG := hG.mono hle
 replace hR := hR.up hle
 obtain ⟨Ar, cr, rfl, hcr⟩ := hOr.slice
 have hol : ov.length = 2 := by have := congrArg List.length hovm; simpa [row, order_two] using this
 obtain ⟨n0, n1, hon⟩ : ∃ n0 n1, order setA1 = [n0, n1] := by
   have h := order_two
   match ho : order setA1, h with
   | [x, y], _ => exact ⟨x, y, rfl⟩
 obtain ⟨x0, x1, rfl⟩ : ∃ x0 x1, ov = [x0, x1] := by
   match ho : ov, hol with
   | [x, y], _ => exact ⟨x, y, rfl⟩
 have hx : x0.1 = opAt setA1 n0 ∧ x1.1 = opAt setA1 n1 := by rw [row, hon] at hovm; simpa using hovm
 have hbf : beforeB x0.1 x1.1 = true := by
   rw [hx.1, hx.2]
   exact row_before hC (i := 0) (j := 1) (by rw [hon]; rfl) (by rw [hon]; rfl) (by decide)
 have hf0 : FitO x0.1 := by rw [hx.1]; exact (hC.get (opAt_get (order_has (by rw [hon]; simp)))).2.2.1
 have hf1 : FitO x1.1 := by rw [hx.2]; exact (hC.get (opAt_get (order_has (by rw [hon]; simp)))).2.2.1
 obtain ⟨_, bn, on, cn2, ln, hne, hcn2, hnn, hn0, hn1, hn2⟩ := (Ow.slT (H := H') (L := ((b, .cells [.map (some bo), .map (some bw), .map (some bt)].toArray 83 (0, 0)) :: (bo, ob) :: (bw, ow) :: (bt, ot) :: (Cr ++ ((b3, .cells (encOp opA1 nilS).toArray 38 (0, 0)) :: (b2, .cells (encOp opA0 nilS).toArray 38 (0, 0)) :: L)))) (xs := [x0, x1]) encOpV_length hOr rfl (by show 2 < _; decide) (by intro x hx; simp [hx]))
 cases hne
 obtain ⟨hA0, hca0, hs0⟩ := slt_at (i := (0 : Int)) (j := 0) hn1 hn2 rfl rfl
 obtain ⟨hA1, hca1, hs1⟩ := slt_at (i := (1 : Int)) (j := 1) hn1 hn2 rfl rfl
 have hi0 := hov x0 (by simp)
 have hi1 := hov x1 (by simp)
 refine gr_perm (L' := ((b, .cells [.map (some bo), .map (some bw), .map (some bt)].toArray 83 (0, 0)) :: (bo, ob) :: (bw, ow) :: (bt, ot) :: (Cr ++ ((b3, .cells (encOp opA1 nilS).toArray 38 (0, 0)) :: (b2, .cells (encOp opA0 nilS).toArray 38 (0, 0)) :: L)))) (by haveI : DecidableEq (Nat × Obj) := fun _ _ => Classical.propDecidable _; rw [List.perm_iff_count]; intro a; simp only [List.count_append, List.count_cons, List.count_nil]; ac_rfl) ?_
 refine ga rfl rfl rfl rfl ?_
 refine gr_nil (gk_then ?_)
 refine gc_seq ?_
 refine gc_draw Tryd.mixed [(.mv, 0), (.mv, 1), (.mv, 2), (.mv, 3), (.mv, 4), (.mv, 5), (.mv, 6), (.mv, 7), (.mv, 8), (.mv, 9), (.nm, 10), (.mv, 11), (.mv, 12), (.mv, 13), (.nm, 14), (.fin, 15), (.fin, 16), (.fin, 17), (.fin, 18), (.fin, 19)] (by decide +kernel) _ (List.Sublist.refl _) ?_
 refine gm rfl rfl rfl rfl ?_
 refine gr_rd rfl rfl rfl (rd_lenS Tryd.underlying25 rfl) ?_
 refine gr_rd rfl rfl rfl (rd_eql rfl rfl) ?_
 refine gm rfl rfl rfl rfl ?_
 refine gm rfl rfl rfl rfl ?_
 refine gr_rd rfl rfl rfl (rd_indexS Tryd.underlying25 Tryd.sizeOf38 rfl rfl hA0 (by decide) (by simp)) ?_
 refine gr_rd rfl rfl rfl (rd_loadA Tryd.ta38 rfl hca0 hs0 (encOpV_length _)) ?_
 refine gm rfl rfl rfl rfl ?_
 refine gr_rd rfl rfl rfl (rd_indexS Tryd.underlying25 Tryd.sizeOf38 rfl rfl hA1 (by decide) (by simp)) ?_
 refine gr_rd rfl rfl rfl (rd_loadA Tryd.ta38 rfl hca1 hs1 (encOpV_length _)) ?_
 refine gr_nx rfl rfl rfl (nx_call Tryd.en40 rfl (before_cc _ _ x0.1 x1.1 x0.2 x1.2 (hi0.any) (hi1.any) hf0.small hf1.small)) ?_; rintro v28 H' L' hle ⟨rfl, rfl, rfl⟩; refine ⟨kp, ?_⟩
 rw [hbf]
 (first | refine gpt rfl rfl rfl rfl rfl ?_ | refine gpf rfl rfl rfl rfl rfl ?_)
 refine gm rfl rfl rfl rfl ?_
 refine gm rfl rfl rfl rfl ?_
 refine gr_nx rfl rfl rfl (nx_slice1 (vs := [_]) Tryd.underlying23 Tryd.sizeOf3 Tryd.zeroValue3 rfl rfl rfl (by first | exact oneCells_of_all rfl | assumption) rfl rfl) ?_; rintro _ _ _ _ ⟨b32, rfl, rfl, rfl⟩; refine ⟨kp, ?_⟩
 refine gr_perm (L' := ((b, .cells [.map (some bo), .map (some bw), .map (some bt)].toArray 83 (0, 0)) :: (bo, ob) :: (bw, ow) :: (bt, ot) :: ((b32, .cells [i64 1].toArray 3 (0, 0)) :: (Cr ++ ((b3, .cells (encOp opA1 nilS).toArray 38 (0, 0)) :: (b2, .cells (encOp opA0 nilS).toArray 38 (0, 0)) :: L))))) (by haveI : DecidableEq (Nat × Obj) := fun _ _ => Classical.propDecidable _; rw [List.perm_iff_count]; intro a; simp only [List.count_append, List.count_cons, List.count_nil]; ac_rfl) ?_
 refine gr_fin rfl rfl rfl (nx_call Tryd.en69 rfl (keys2_cc _ _ hR hC (by decide) _ [1] (Ow.slT (enc := fun n : Int => [i64 n]) (k := 1) (xs := [1]) (fun _ => rfl) (Ow.new (b := b32) (e := 3) (n := 1) (cs := [i64 1]) rfl) rfl (by decide) (by intro x hx; simp at hx; simp [hx])))) ?_; rintro v33 H' L' hle ⟨Ck, hOk, rfl⟩
 obtain ⟨ak, ck, rfl, hck⟩ := hOk.slice
 rw [keys_one]
 (refine gr_fin rfl rfl rfl (Rd.nx (rd_lenS Tryd.underlying69 rfl)) ?_; rintro _ _ _ _ ⟨rfl, rfl, rfl⟩)
 (refine gr_fin rfl rfl rfl (Rd.nx (rd_eql rfl rfl)) ?_; rintro _ _ _ _ ⟨rfl, rfl, rfl⟩)
 (first | (refine gr_fin rfl rfl rfl (Rd.nx (rd_pick_t rfl rfl)) ?_; rintro _ _ _ _ ⟨rfl, rfl, rfl⟩) | (refine gr_fin rfl rfl rfl (Rd.nx (rd_pick_f rfl rfl)) ?_; rintro _ _ _ _ ⟨rfl, rfl, rfl⟩))
 refine gr_fin rfl rfl rfl (Rd.nx (rd_assign rfl)) ?_; rintro _ _ _ _ ⟨rfl, rfl, rfl⟩
 refine gr_nil (gk_then ?_)
 refine gc_ret ?_
 refine gk_drop (L' := L) sba ?_
 refine gk_result (L' := L) (.inl rfl) _ (res1 rfl rfl) (List.Sublist.refl _) gle ?_
 exact ⟨rfl, rfl⟩
set_option maxHeartbeats 2000000 in
theorem lineDepths_cc (H : Gh) (hG : Glob H) (L : Chunks) (v : Value) (xs : List (Tr.Make × Value)) (hM : SlT encMakeV 78 H [] v xs) (hMp : ∀ p ∈ xs, Ids H [] p.2 p.1.op.preds) (hMr : ∀ p ∈ xs, RngM p.1) :
    CC Tryd.prog 9 #[v] H L (fun u H' L' => u = .bool true ∧ L = L') := by
 have hLE := Gh.le_refl H
 refine cc_of Tryd.func9 rfl (Nat.le_of_ble_eq_true rfl) ?_
 simp only [Tryd.ntmps9]
 refine gc_seq (gc_seqr [(.mv, 0)] rfl ?_)
 refine ga rfl rfl rfl rfl ?_
 refine gr_nil (gk_then ?_)
 refine gc_seq ?_
 refine gc_seq (gc_seqr [(.nm, 0), (.mv, 1)] rfl ?_)
 refine gr_nx rfl rfl rfl (nx_call Tryd.en36 rfl (alive11_cc _ hG _)) ?_; rintro v11 H' L' hle ⟨rfl, rfl⟩; refine ⟨trivial, ?_⟩
 have hLE := Gh.le_trans hLE hle
 replace hG := hG.mono hle
 replace hM := hM.up hle
 replace hMp : ∀ p ∈ xs, Ids _ [] p.2 p.1.op.preds := fun p hp => (hMp p hp).up hle
 refine gr_rd rfl rfl rfl (rd_not rfl) ?_
 refine gr_nil (gk_then ?_)
 refine gc_no rfl ?_
 refine gc_skip ?_
 refine gk_then ?_
 refine gc_seq (gc_seqr [(.mv, 0), (.nm, 1), (.mv, 2), (.mv, 3), (.mv, 4), (.mv, 5), (.mv, 6)] rfl ?_)
 refine gm rfl rfl rfl rfl ?_
 refine gr_nx rfl rfl rfl (nx_call Tryd.en37 rfl (both11_cc _ hG _ v xs hM hMp hMr)) ?_; rintro v15 H' L' hle ⟨b, bo, bw, bt, br, s, ob, ow, ot, v0, v1, v2, v3, sv, sw, C0, C1, C2, C3, rfl, hR, hS, hC, hz, rfl⟩; refine ⟨trivial, ?_⟩
 have hLE := Gh.le_trans hLE hle
 replace hG := hG.mono hle
 have hsm : ∀ p ∈ s.ops, p.2.preds.length ≤ 32 := fun p hp => hR.small p (List.mem_append_left _ hp)
 have holn := order_length s
 refine gm rfl rfl rfl rfl ?_
 refine gr_rd rfl rfl rfl (rd_extract rfl rfl) ?_
 refine gr_rd rfl rfl rfl (rd_extract rfl rfl) ?_
 refine ga rfl rfl rfl rfl ?_
 refine ga rfl rfl rfl rfl ?_
 refine gr_nil (gk_then ?_)
 refine gc_seq (gc_seqr [(.mv, 0), (.nm, 1), (.mv, 2), (.nm, 3), (.mv, 4), (.mv, 5)] rfl ?_)
 refine gm rfl rfl rfl rfl ?_
 refine gr_nx rfl rfl rfl (nx_call Tryd.en38 rfl (order_cc _ _ hR hC (by omega))) ?_; rintro v19 H' L' hle ⟨Cn, hOn, rfl, rfl⟩; refine ⟨trivial, ?_⟩
 obtain ⟨An, cn, rfl, hcn⟩ := hOn.slice
 refine gm rfl rfl rfl rfl ?_
 refine gr_perm (L' := ((b, .cells [.map (some bo), .map (some bw), .map (some bt)].toArray 83 (0, 0)) :: (bo, ob) :: (bw, ow) :: (bt, ot) :: (Cn ++ ((br, .cells [v0, v1, v2, v3].toArray 48 (0, 0)) :: (C0 ++ (C1 ++ (C2 ++ (C3 ++ L)))))))) (by haveI : DecidableEq (Nat × Obj) := fun _ _ => Classical.propDecidable _; rw [List.perm_iff_count]; intro a; simp only [List.count_append, List.count_cons, List.count_nil]; ac_rfl) ?_
 refine gr_nx rfl rfl rfl (nx_call Tryd.en39 rfl (row_cc _ _ hR hC (by omega))) ?_; rintro v21 H' L' hle ⟨ov, Cr, hOr, hovm, hov, rfl⟩; refine ⟨trivial, ?_⟩
 have hLE := Gh.le_trans hLE hle
 replace hG := hG.mono hle
 replace hR := hR.up hle
 obtain ⟨HH, hHH⟩ : ∃ HH, H' = HH := ⟨_, rfl⟩
 subst hHH
 obtain ⟨Ar, cr, rfl, hcr⟩ := hOr.slice
 have hovl : ov.length = (order s).length := by have := congrArg List.length hovm; simpa [row] using this
 obtain ⟨_, bn, on, cn2, ln, hne, hcn2, hnn, hn0, hn1, hn2⟩ := (Ow.slT (H := H') (L := (Cr ++ ((b, .cells [.map (some bo), .map (some bw), .map (some bt)].toArray 83 (0, 0)) :: (bo, ob) :: (bw, ow) :: (bt, ot) :: (Cn ++ ((br, .cells [v0, v1, v2, v3].toArray 48 (0, 0)) :: (C0 ++ (C1 ++ (C2 ++ (C3 ++ L))))))))) (xs := order s) encId_length hOn rfl (by omega) (by intro x hx; simp [hx]))
 cases hne
 obtain ⟨_, bm, om, cm2, lm, hme, hcm2, hmm, hm0, hm1, hm2⟩ := (Ow.slT (H := H') (L := (Cr ++ ((b, .cells [.map (some bo), .map (some bw), .map (some bt)].toArray 83 (0, 0)) :: (bo, ob) :: (bw, ow) :: (bt, ot) :: (Cn ++ ((br, .cells [v0, v1, v2, v3].toArray 48 (0, 0)) :: (C0 ++ (C1 ++ (C2 ++ (C3 ++ L))))))))) (xs := ov) encOpV_length hOr rfl (by omega) (by intro x hx; simp [hx]))
 cases hme
 refine ga rfl rfl rfl rfl ?_
 refine ga rfl rfl rfl rfl ?_
 refine gr_nil (gk_then ?_)
 refine gc_seq ?_
 refine gc_seq (gc_seqr [(.mv, 0), (.mv, 1), (.mv, 2), (.mv, 3), (.mv, 4)] rfl ?_)
 refine gm rfl rfl rfl rfl ?_
 refine gr_rd rfl rfl rfl (rd_lenS Tryd.underlying29 rfl) ?_
 refine gm rfl rfl rfl rfl ?_
 refine gr_rd rfl rfl rfl (rd_lenS Tryd.underlying25 rfl) ?_
 refine gr_rd rfl rfl rfl (rd_neq rfl rfl) ?_
 refine gr_nil (gk_then ?_)
 refine gc_cond rfl (fun hcR5 => ?_) (fun hcR5 => ?_)
 ·exfalso
  rw [hovl] at hcR5
  simp at hcR5
 ·skip
  refine gc_skip ?_
  refine gk_then ?_
  refine gc_seq ?_
  refine gc_seq (gc_seqr [(.mv, 0), (.mv, 1), (.mv, 2)] rfl ?_)
  refine gm rfl rfl rfl rfl ?_
  refine gr_rd rfl rfl rfl (rd_lenS Tryd.underlying25 rfl) ?_
  refine gm rfl rfl rfl rfl ?_
  refine gr_nil (gk_then ?_)
  refine gc_block ?_
  refine gc_loop (fun t : Nat => [(3, pt b 0), (5, .slice An (order s).length cn), (6, .slice Ar ov.length cr), (27, .slice Ar ov.length cr), (28, i64 ov.length), (29, i64 t)]) (fun t H1 L1 => H' = H1 ∧ (Cr ++ ((b, .cells [.map (some bo), .map (some bw), .map (some bt)].toArray 83 (0, 0)) :: (bo, ob) :: (bw, ow) :: (bt, ot) :: (Cn ++ ((br, .cells [v0, v1, v2, v3].toArray 48 (0, 0)) :: (C0 ++ (C1 ++ (C2 ++ (C3 ++ L)))))))) = L1 ∧ t ≤ ov.length) (fun t => ov.length - t) (0) ?_ sbs ?_
  ·exact ⟨rfl, rfl, Nat.zero_le _⟩
  ·rintro k H1 L1 ⟨rfl, rfl, hk⟩
   show GC _ _ _ _ [(3, pt b 0), (5, .slice An (order s).length cn), (6, .slice Ar ov.length cr), (27, .slice Ar ov.length cr), (28, i64 ov.length), (29, i64 k)] H' (Cr ++ ((b, .cells [.map (some bo), .map (some bw), .map (some bt)].toArray 83 (0, 0)) :: (bo, ob) :: (bw, ow) :: (bt, ot) :: (Cn ++ ((br, .cells [v0, v1, v2, v3].toArray 48 (0, 0)) :: (C0 ++ (C1 ++ (C2 ++ (C3 ++ L))))))))
   refine gc_seq (gc_seqr [(.mv, 0)] rfl ?_)
   refine gr_rd rfl rfl rfl (rd_lss rfl rfl) ?_
   refine gr_nil (gk_then ?_)
   refine gc_seq ?_
   refine gc_cond rfl (fun hcR8 => ?_) (fun hcR8 => ?_)
   ·have hlt : k < ov.length := by simpa using hcR8
    obtain ⟨p, hp⟩ : ∃ p, ov[k]? = some p := ⟨_, List.getElem?_eq_getElem hlt⟩
    obtain ⟨nk, hnk⟩ : ∃ nk, (order s)[k]? = some nk := ⟨_, List.getElem?_eq_getElem (by omega)⟩
    have hpo : p.1 = opAt s nk := by
      have h := congrArg (fun l : List POp => l[k]?) hovm
      simp only [row, List.getElem?_map, hp, hnk, Option.map_some, Option.some.injEq] at h
      exact h
    have hhas := order_has (List.mem_of_getElem? hnk)
    have hgo := opAt_get hhas
    have hcg := hC.get hgo
    have hql := opAt_preds hsm nk
    have hfp : FitO p.1 := by rw [hpo]; exact hcg.2.2.1
    have hpi := hov p (List.mem_of_getElem? hp)
    obtain ⟨hAr, hcr1, hsr⟩ := slt_at (i := (k : Int)) hm1 hm2 hp rfl
    obtain ⟨hAn, hcn1, hsn⟩ := slt_at (i := (k : Int)) hn1 hn2 hnk rfl
    refine gc_skip ?_
    refine gk_then ?_
    refine gc_seq ?_
    refine gc_block ?_
    refine gc_seq (gc_seqr [(.mv, 0), (.mv, 1), (.mv, 2), (.nm, 3), (.mv, 4), (.nm, 5)] rfl ?_)
    refine gm rfl rfl rfl rfl ?_
    refine gr_rd rfl rfl rfl (rd_indexS Tryd.underlying25 Tryd.sizeOf38 rfl rfl hAr (by omega) (by omega)) ?_
    refine gr_rd rfl rfl rfl (rd_loadA Tryd.ta38 rfl hcr1 hsr (encOpV_length _)) ?_
    refine gr_nx rfl rfl rfl (nx_alloc Tryd.zeroValue38 rfl) ?_; rintro _ _ _ _ ⟨b8, rfl, rfl, rfl⟩; refine ⟨trivial, ?_⟩
    refine ga rfl rfl rfl rfl ?_
    refine gr_nx0 rfl rfl (nx_store (vs := encOpV p) Tryd.sizeOf38 rfl rfl rfl (encOp_length _ _) upd (by simp) (encOp_ones _ hpi.one)) ?_; rintro _ _ _ _ ⟨rfl, rfl, rfl⟩; refine ⟨trivial, ?_⟩
    rw [wr_all (by simp)]
    refine gr_nil (gk_then ?_)
    refine gc_seq (gc_seqr [(.mv, 0), (.mv, 1), (.mv, 2), (.mv, 3), (.mv, 4), (.nm, 5), (.mv, 6), (.mv, 7), (.mv, 8), (.nm, 9), (.nm, 10), (.mv, 11)] rfl ?_)
    refine gm rfl rfl rfl rfl ?_
    refine gm rfl rfl rfl rfl ?_
    refine gm rfl rfl rfl rfl ?_
    refine gr_rd rfl rfl rfl (rd_indexS Tryd.underlying29 Tryd.sizeOf34 rfl rfl hAn (by omega) (by omega)) ?_
    refine gr_rd rfl rfl rfl (rd_loadA Tryd.ta34 rfl (hcn1.mono (Gh.le_refl _) (by intro x hx; simp [baseL, hx])) hsn (encId_length _)) ?_
    refine gr_nx rfl rfl rfl (nx_call Tryd.en15 rfl (get_cc _ _ (hR.view (b := b) (bo := bo) (bw := bw) (bt := bt) (Cells.own (l := [.map (some bo), .map (some bw), .map (some bt)]) (T := 83) (z := (0, 0)) (by simp )) (by simp) (by simp) (by simp)) hsm nk)) ?_; rintro v40 H' L' hle ⟨C7, u7, rfl, hO7, rfl, rfl⟩; refine ⟨trivial, ?_⟩
    rw [hgo, Option.getD_some] at hO7
    rw [hgo, hhas, Option.getD_some]
    refine gm rfl rfl rfl rfl ?_
    refine gr_rd rfl rfl rfl (rd_extract rfl rfl) ?_
    refine gr_rd rfl rfl rfl (rd_extract rfl rfl) ?_
    refine gr_nx rfl rfl rfl (nx_alloc Tryd.zeroValue38 rfl) ?_; rintro _ _ _ _ ⟨b9, rfl, rfl, rfl⟩; refine ⟨trivial, ?_⟩
    refine gr_nx0 rfl rfl (nx_store (vs := encOp (opAt s nk) u7) Tryd.sizeOf38 rfl rfl rfl (encOp_length _ _) upd (by simp) (encOp_ones _ hO7.one)) ?_; rintro _ _ _ _ ⟨rfl, rfl, rfl⟩; refine ⟨trivial, ?_⟩
    rw [wr_all (by simp)]
    refine ga rfl rfl rfl rfl ?_
    refine gr_nil (gk_then ?_)
    refine gc_seq ?_
    refine gc_seq (gc_seqr [(.mv, 0), (.mv, 1), (.mv, 2), (.mv, 3), (.mv, 4), (.nm, 5), (.mv, 6), (.mv, 7)] rfl ?_)
    refine gm rfl rfl rfl rfl ?_
    refine gr_rd rfl rfl rfl (rd_neq rfl rfl) ?_
    refine gm rfl rfl rfl rfl ?_
    refine gr_rd rfl rfl rfl (rd_loadA Tryd.ta38 rfl (Cells.own (l := encOp (opAt s nk) u7) (T := 38) (z := (0, 0)) (by simp [baseL])) (Seg.all _) (encOp_length _ _)) ?_
    refine gr_rd rfl rfl rfl (rd_loadA Tryd.ta38 rfl (Cells.own (l := encOpV p) (T := 38) (z := (0, 0)) (by simp [baseL])) (Seg.all _) (encOp_length _ _)) ?_
    refine gr_nx rfl rfl rfl (nx_call Tryd.en20 rfl (same_cc _ _ (opAt s nk) p.1 u7 p.2 (Ow.slT encId_length hO7 rfl (Nat.lt_of_le_of_lt hql (by decide)) (by intro x hx; simp [hx])) (hpi.any))) ?_; rintro v48 H' L' hle ⟨rfl, rfl, rfl⟩; refine ⟨trivial, ?_⟩
    rw [show decide (opAt s nk = p.1) = true from decide_eq_true hpo.symm]
    refine gr_rd rfl rfl rfl (rd_not rfl) ?_
    (first | refine gpt rfl rfl rfl rfl rfl ?_ | refine gpf rfl rfl rfl rfl rfl ?_)
    refine gr_nil (gk_then ?_)
    refine gc_no rfl ?_
    refine gc_skip ?_
    refine gk_then ?_
    refine gc_seq ?_
    refine gc_draw Tryd.mixed [(.mv, 0), (.mv, 1), (.mv, 2), (.mv, 3), (.mv, 4), (.mv, 5), (.mv, 6), (.mv, 7), (.mv, 8), (.fin, 9), (.fin, 10), (.fin, 11)] (by decide +kernel) _ (List.Sublist.refl _) ?_
    refine gm rfl rfl rfl rfl ?_
    refine gr_rd rfl rfl rfl (rd_gtr rfl rfl) ?_
    refine gm rfl rfl rfl rfl ?_
    refine gr_split rfl (fun hg2 => ?_) (fun hg2 => ?_)
    ·have hk0 : 0 < k := by simpa using hg2
     obtain ⟨q, hq⟩ : ∃ q, ov[k - 1]? = some q := ⟨_, List.getElem?_eq_getElem (by omega)⟩
     obtain ⟨nq, hnq⟩ : ∃ nq, (order s)[k - 1]? = some nq := ⟨_, List.getElem?_eq_getElem (by omega)⟩
     have hqo : q.1 = opAt s nq := by
       have h := congrArg (fun l : List POp => l[k - 1]?) hovm
       simp only [row, List.getElem?_map, hq, hnq, Option.map_some, Option.some.injEq] at h
       exact h
     have hfq : FitO q.1 := by rw [hqo]; exact (hC.get (opAt_get (order_has (List.mem_of_getElem? hnq)))).2.2.1
     have hqi := hov q (List.mem_of_getElem? hq)
     have hbf : beforeB q.1 p.1 = true := by rw [hqo, hpo]; exact row_before hC hnq hnk (by omega)
     obtain ⟨hAq, hcq1, hsq⟩ := slt_at (i := (k : Int) - 1) (j := k - 1) hm1 hm2 hq (by omega)
     refine gm rfl rfl rfl rfl ?_
     refine gm rfl rfl rfl rfl ?_
     (first | refine gr_rd rfl rfl rfl (rd_sub rfl rfl (IntWalk.i64_in _ (by omega))) ?_ | refine gr_rd rfl rfl rfl (rd_sub rfl rfl rfl) ?_)
     refine gr_rd rfl rfl rfl (rd_indexS Tryd.underlying25 Tryd.sizeOf38 rfl rfl hAq (by omega) (by omega)) ?_
     refine gr_rd rfl rfl rfl (rd_loadA Tryd.ta38 rfl (hcq1.mono (Gh.le_refl _) (by intro x hx; simp [baseL, hx])) hsq (encOpV_length _)) ?_
     refine gr_rd rfl rfl rfl (rd_loadA Tryd.ta38 rfl (Cells.own (l := encOpV p) (T := 38) (z := (0, 0)) (by simp [baseL])) (Seg.all _) (encOp_length _ _)) ?_
     refine gr_fin rfl rfl rfl (nx_call Tryd.en40 rfl (before_cc _ _ q.1 p.1 q.2 p.2 (hqi.any) (hpi.any) hfq.small hfp.small)) ?_; rintro v60 H' L' hle ⟨rfl, rfl, rfl⟩
     rw [hbf]
     (refine gr_fin rfl rfl rfl (Rd.nx (rd_not rfl)) ?_; rintro _ _ _ _ ⟨rfl, rfl, rfl⟩)
     (first | (refine gr_fin rfl rfl rfl (Rd.nx (rd_pick_t rfl rfl)) ?_; rintro _ _ _ _ ⟨rfl, rfl, rfl⟩) | (refine gr_fin rfl rfl rfl (Rd.nx (rd_pick_f rfl rfl)) ?_; rintro _ _ _ _ ⟨rfl, rfl, rfl⟩))
     refine gr_nil (gk_then ?_)
     refine gc_no rfl ?_
     refine gc_skip ?_
     refine gk_inBlock ?_
     refine gk_then ?_
     refine gc_seqr [(.mv, 0), (.mv, 1)] rfl ?_
     (first | refine gr_rd rfl rfl rfl (rd_add rfl rfl (IntWalk.i64_in _ (by omega))) ?_ | refine gr_rd rfl rfl rfl (rd_add rfl rfl rfl) ?_)
     refine gm rfl rfl rfl rfl ?_
     refine gr_nil ?_
     refine gk_drop (L' := (Cr ++ ((b, .cells [.map (some bo), .map (some bw), .map (some bt)].toArray 83 (0, 0)) :: (bo, ob) :: (bw, ow) :: (bt, ot) :: (Cn ++ ((br, .cells [v0, v1, v2, v3].toArray 48 (0, 0)) :: (C0 ++ (C1 ++ (C2 ++ (C3 ++ L))))))))) sba ?_
     refine gk_round (k + 1) ?_ ⟨rfl, rfl, by omega⟩ sbs
     show ov.length - (k + 1) < ov.length - k
     omega
    ·skip
     refine gr_no rfl rfl rfl ?_
     refine gr_no rfl rfl rfl ?_
     refine gr_no rfl rfl rfl ?_
     refine gr_no rfl rfl rfl ?_
     refine gr_no rfl rfl rfl ?_
     refine gr_no rfl rfl rfl ?_
     refine gr_no rfl rfl rfl ?_
     refine gr_no rfl rfl rfl ?_
     (first | (refine gr_fin rfl rfl rfl (Rd.nx (rd_pick_t rfl rfl)) ?_; rintro _ _ _ _ ⟨rfl, rfl, rfl⟩) | (refine gr_fin rfl rfl rfl (Rd.nx (rd_pick_f rfl rfl)) ?_; rintro _ _ _ _ ⟨rfl, rfl, rfl⟩))
     refine gr_nil (gk_then ?_)
     refine gc_no rfl ?_
     refine gc_skip ?_
     refine gk_inBlock ?_
     refine gk_then ?_
     refine gc_seqr [(.mv, 0), (.mv, 1)] rfl ?_
     (first | refine gr_rd rfl rfl rfl (rd_add rfl rfl (IntWalk.i64_in _ (by omega))) ?_ | refine gr_rd rfl rfl rfl (rd_add rfl rfl rfl) ?_)
     refine gm rfl rfl rfl rfl ?_
     refine gr_nil ?_
     refine gk_drop (L' := (Cr ++ ((b, .cells [.map (some bo), .map (some bw), .map (some bt)].toArray 83 (0, 0)) :: (bo, ob) :: (bw, ow) :: (bt, ot) :: (Cn ++ ((br, .cells [v0, v1, v2, v3].toArray 48 (0, 0)) :: (C0 ++ (C1 ++ (C2 ++ (C3 ++ L))))))))) sba ?_
     refine gk_round (k + 1) ?_ ⟨rfl, rfl, by omega⟩ sbs
     show ov.length - (k + 1) < ov.length - k
     omega
   ·skip
    refine gc_exit ?_
    refine gk_exit_then ?_
    refine gk_exit_then ?_
    refine gk_here ?_
    refine gk_then ?_
    refine gc_seq (gc_seqr [(.mv, 0)] rfl ?_)
    refine ga rfl rfl rfl rfl ?_
    refine gr_nil (gk_then ?_)
    refine gc_ret ?_
    refine gk_drop (L' := L) sba ?_
    refine gk_result (L' := L) (.inl rfl) _ (res1 rfl rfl) (List.Sublist.refl _) gle ?_
    exact ⟨rfl, rfl⟩
end Go.Proofs.YtfhldfjknagidaaDoor
