/-
  Walks: two sets that are the same.
-/
import Derived.Test.YtfhldfjknagidaaDoorLineDepthsM3
import Derived.Test.YtfhldfjknagidaaDoorLineDepthsM6
set_option linter.unusedSimpArgs false
set_option linter.unusedVariables false
set_option linter.unnecessarySimpa false
set_option linter.all false
namespace Go.Proofs.YtfhldfjknagidaaDoor
open Go.VK Go.Tr
set_option maxRecDepth 20000
attribute [local irreducible] Go.Tr.sha
theorem names_length (s : DSet) : (names s).length = s.ops.length := by rw [names, rising_length, List.length_map]
theorem waits_length (s : DSet) : (waits s).length = s.wait.length := by rw [waits, rising_length, List.length_map]
theorem names_has {s : DSet} {n : Nm} : n ∈ names s ↔ has s.ops n = true := by rw [names, mem_rising, has_mem]
theorem dec_self {α : Type} [DecidableEq α] (a : α) : decide (a = a) = true := decide_eq_true rfl
/-- What the reference holds at a name's place. -/
theorem at_name {s : DSet} {ov : List (POp × Value)} (he : ov.map (·.1) = s.ops.map (·.2)) {n : Nm} (h : has s.ops n = true) : ∃ (k : Nat) (o : POp) (pv : Value), posOf (s.ops.map (·.1)) n = (k : Int) ∧ ov[k]? = some (o, pv) ∧ Tr.get s.ops n = some o := by
  obtain ⟨k, o, h1, h2, h3⟩ := posOf_get h
  have h4 := congrArg (fun l : List POp => l[k]?) he
  simp only [List.getElem?_map, h2, Option.map_some] at h4
  cases hk : ov[k]? with
  | none => rw [hk] at h4; cases h4
  | some p =>
    rw [hk] at h4
    obtain ⟨q, pv⟩ := p
    simp only [Option.map_some, Option.some.injEq] at h4
    subst h4
    exact ⟨k, q, pv, h1, hk, h3⟩

set_option maxHeartbeats 2000000 in
theorem same2_cc (H : Gh) (L : Chunks) {b bo bw bt r : Nat} {s : DSet} {ob ow ot : Obj} {v0 v1 v2 v3 : Value} {ov wv : List (POp × Value)} (hR : DRep H s ob ow ot) (hV : RView H L r s v0 v1 v2 v3 ov wv) (hz : s.ops.length + s.wait.length < 16777216) :
    CC Tryd.prog 22 #[pt b 0, pt r 0] H ((b, .cells [.map (some bo), .map (some bw), .map (some bt)].toArray 83 (0, 0)) :: (bo, ob) :: (bw, ow) :: (bt, ot) :: L) (fun v H' L' => v = .bool true ∧ H = H' ∧ ((b, .cells [.map (some bo), .map (some bw), .map (some bt)].toArray 83 (0, 0)) :: (bo, ob) :: (bw, ow) :: (bt, ot) :: L) = L') := by
 have hVm : ∀ (X : Chunks), (∀ x ∈ L, x ∈ X) → RView H X r s v0 v1 v2 v3 ov wv := fun X hX => hV.mono (Gh.le_refl _) hX
 have hnl := names_length s
 have hwl := waits_length s
 have hovl : ov.length = s.ops.length := by have := congrArg List.length hV.opsE; simpa using this
 have hsm : ∀ p ∈ s.ops, p.2.preds.length ≤ 32 := fun p hp => hR.small p (List.mem_append_left _ hp)
 refine cc_of Tryd.func22 rfl (Nat.le_of_ble_eq_true rfl) ?_
 simp only [Tryd.ntmps22]
 refine gc_seq (gc_seqr [(.mv, 0)] rfl ?_)
 refine ga rfl rfl rfl rfl ?_
 refine gr_nil (gk_then ?_)
 refine gc_seq ?_
 refine gc_seq (gc_seqr [(.mv, 0), (.nm, 1), (.mv, 2), (.nm, 3), (.nm, 4), (.mv, 5), (.mv, 6), (.mv, 7), (.nm, 8), (.mv, 9), (.nm, 10), (.nm, 11), (.mv, 12), (.mv, 13), (.mv, 14), (.mv, 15), (.nm, 16), (.mv, 17), (.nm, 18), (.nm, 19), (.mv, 20), (.mv, 21)] rfl ?_)
 refine gm rfl rfl rfl rfl ?_
 refine gr_nx rfl rfl rfl (nx_call Tryd.en14 rfl (names_cc _ _ hR (by omega))) ?_; rintro v10 H' L' hle ⟨C1, hO1, rfl, rfl⟩; refine ⟨trivial, ?_⟩
 refine gm rfl rfl rfl rfl ?_
 refine gr_nx rfl rfl rfl (nx_call Tryd.en58 rfl (rnames_cc _ _ (hVm _ (by intro x hx; simp [hx])) (by omega))) ?_; rintro v12 H' L' hle ⟨C2, hO2, rfl, rfl⟩; refine ⟨trivial, ?_⟩
 refine gr_nx rfl rfl rfl (nx_call Tryd.en25 rfl (ids_cc _ _ _ _ _ _ (Ow.slT encId_length hO1 rfl (by rw [hnl]; omega) (by intro x hx; simp [hx])) (Ow.slT encId_length hO2 rfl (by rw [hnl]; omega) (by intro x hx; simp [hx])))) ?_; rintro v13 H' L' hle ⟨rfl, rfl, rfl⟩; refine ⟨trivial, ?_⟩
 rw [dec_self (names s)]
 refine gr_drop (L' := ((b, .cells [.map (some bo), .map (some bw), .map (some bt)].toArray 83 (0, 0)) :: (bo, ob) :: (bw, ow) :: (bt, ot) :: L)) sba ?_
 refine gr_rd rfl rfl rfl (rd_not rfl) ?_
 refine gm rfl rfl rfl rfl ?_
 refine gm rfl rfl rfl rfl ?_
 refine gr_nx rfl rfl rfl (nx_call Tryd.en21 rfl (heads_cc _ _ hR (by omega))) ?_; rintro v17 H' L' hle ⟨C3, hO3, rfl, rfl⟩; refine ⟨trivial, ?_⟩
 refine gm rfl rfl rfl rfl ?_
 refine gr_nx rfl rfl rfl (nx_call Tryd.en59 rfl (rheads_cc _ _ (hVm _ (by intro x hx; simp [hx])) (by omega))) ?_; rintro v19 H' L' hle ⟨C4, hO4, rfl, rfl⟩; refine ⟨trivial, ?_⟩
 refine gr_nx rfl rfl rfl (nx_call Tryd.en25 rfl (ids_cc _ _ _ _ _ _ (Ow.slT encId_length hO3 rfl (Nat.lt_of_le_of_lt (heads_le s) (by omega)) (by intro x hx; simp [hx])) (Ow.slT encId_length hO4 rfl (Nat.lt_of_le_of_lt (heads_le s) (by omega)) (by intro x hx; simp [hx])))) ?_; rintro v20 H' L' hle ⟨rfl, rfl, rfl⟩; refine ⟨trivial, ?_⟩
 rw [dec_self (heads s)]
 refine gr_drop (L' := ((b, .cells [.map (some bo), .map (some bw), .map (some bt)].toArray 83 (0, 0)) :: (bo, ob) :: (bw, ow) :: (bt, ot) :: L)) sba ?_
 refine gr_rd rfl rfl rfl (rd_not rfl) ?_
 (first | refine gpt rfl rfl rfl rfl rfl ?_ | refine gpf rfl rfl rfl rfl rfl ?_)
 refine gm rfl rfl rfl rfl ?_
 refine gm rfl rfl rfl rfl ?_
 refine gr_nx rfl rfl rfl (nx_call Tryd.en18 rfl (waits_cc _ _ hR (by omega))) ?_; rintro v25 H' L' hle ⟨C5, hO5, rfl, rfl⟩; refine ⟨trivial, ?_⟩
 refine gm rfl rfl rfl rfl ?_
 refine gr_nx rfl rfl rfl (nx_call Tryd.en24 rfl (rwaits_cc _ _ (hVm _ (by intro x hx; simp [hx])) (by omega))) ?_; rintro v27 H' L' hle ⟨C6, hO6, rfl, rfl⟩; refine ⟨trivial, ?_⟩
 refine gr_nx rfl rfl rfl (nx_call Tryd.en25 rfl (ids_cc _ _ _ _ _ _ (Ow.slT encId_length hO5 rfl (by rw [hwl]; omega) (by intro x hx; simp [hx])) (Ow.slT encId_length hO6 rfl (by rw [hwl]; omega) (by intro x hx; simp [hx])))) ?_; rintro v28 H' L' hle ⟨rfl, rfl, rfl⟩; refine ⟨trivial, ?_⟩
 rw [dec_self (waits s)]
 refine gr_drop (L' := ((b, .cells [.map (some bo), .map (some bw), .map (some bt)].toArray 83 (0, 0)) :: (bo, ob) :: (bw, ow) :: (bt, ot) :: L)) sba ?_
 refine gr_rd rfl rfl rfl (rd_not rfl) ?_
 (first | refine gpt rfl rfl rfl rfl rfl ?_ | refine gpf rfl rfl rfl rfl rfl ?_)
 refine gr_nil (gk_then ?_)
 refine gc_no rfl ?_
 refine gc_skip ?_
 refine gk_then ?_
 refine gc_seq ?_
 refine gc_seq (gc_seqr [(.mv, 0), (.nm, 1), (.mv, 2), (.mv, 3)] rfl ?_)
 refine gm rfl rfl rfl rfl ?_
 refine gr_nx rfl rfl rfl (nx_call Tryd.en58 rfl (rnames_cc _ _ (hVm _ (by intro x hx; simp [hx])) (by omega))) ?_; rintro v32 H' L' hle ⟨Cn, hOn, rfl, rfl⟩; refine ⟨trivial, ?_⟩
 obtain ⟨An, cn, rfl, hcn⟩ := hOn.slice
 obtain ⟨_, bn, on, cn2, ln, hne, hcn2, hnn, hn0, hn1, hn2⟩ := (Ow.slT (H := H) (L := (Cn ++ ((b, .cells [.map (some bo), .map (some bw), .map (some bt)].toArray 83 (0, 0)) :: (bo, ob) :: (bw, ow) :: (bt, ot) :: L))) (xs := names s) encId_length hOn rfl (by omega) (by intro x hx; simp [hx]))
 cases hne
 refine gr_rd rfl rfl rfl (rd_lenS Tryd.underlying29 rfl) ?_
 refine gm rfl rfl rfl rfl ?_
 refine gr_nil (gk_then ?_)
 refine gc_block ?_
 refine gc_loop (fun t : Nat => [(0, pt b 0), (1, pt r 0), (32, .slice An (names s).length cn), (33, i64 (names s).length), (34, i64 t)]) (fun t H1 L1 => H = H1 ∧ (Cn ++ ((b, .cells [.map (some bo), .map (some bw), .map (some bt)].toArray 83 (0, 0)) :: (bo, ob) :: (bw, ow) :: (bt, ot) :: L)) = L1 ∧ t ≤ (names s).length) (fun t => (names s).length - t) (0) ?_ sbs ?_
 ·exact ⟨rfl, rfl, Nat.zero_le _⟩
 ·rintro k H1 L1 ⟨rfl, rfl, hk⟩
  show GC _ _ _ _ [(0, pt b 0), (1, pt r 0), (32, .slice An (names s).length cn), (33, i64 (names s).length), (34, i64 k)] H (Cn ++ ((b, .cells [.map (some bo), .map (some bw), .map (some bt)].toArray 83 (0, 0)) :: (bo, ob) :: (bw, ow) :: (bt, ot) :: L))
  refine gc_seq (gc_seqr [(.mv, 0)] rfl ?_)
  refine gr_rd rfl rfl rfl (rd_lss rfl rfl) ?_
  refine gr_nil (gk_then ?_)
  refine gc_seq ?_
  refine gc_cond rfl (fun hc1 => ?_) (fun hc1 => ?_)
  ·have hlt : k < (names s).length := by simpa using hc1
   obtain ⟨hAe, hca, hsa⟩ := ids_at2 (i := (k : Int)) hn1 hn2 hlt rfl
   obtain ⟨nk, hnk⟩ : ∃ nk, ((names s).getD k Nm.zero) = nk := ⟨_, rfl⟩
   rw [hnk] at hsa
   have hhas : has s.ops nk = true := by
     rw [← hnk]
     exact names_has.1 (List.mem_of_getElem? (getD_at hlt))
   obtain ⟨q, oq, pq, hp1, hp2, hp3⟩ := at_name hV.opsE hhas
   obtain ⟨⟨A0, b0, o0, c0, l0, he0, hc0, hn0', ho0, ho1, ho2⟩, hop⟩ := (hVm (Cn ++ ((b, .cells [.map (some bo), .map (some bw), .map (some bt)].toArray 83 (0, 0)) :: (bo, ob) :: (bw, ow) :: (bt, ot) :: L)) (by intro x hx; simp [hx])).ops
   obtain ⟨hA0, hc01, hs0⟩ := slt_at (i := (q : Int)) ho1 ho2 hp2 rfl
   have hq := (hop _ (List.mem_of_getElem? hp2))
   simp only at hq
   have hql := (List.getElem?_eq_some_iff.1 hp2).1
   refine gc_skip ?_
   refine gk_then ?_
   refine gc_seq ?_
   refine gc_block ?_
   refine gc_seq (gc_seqr [(.mv, 0), (.mv, 1), (.nm, 2), (.nm, 3)] rfl ?_)
   refine gr_rd rfl rfl rfl (rd_indexS Tryd.underlying29 Tryd.sizeOf34 rfl rfl hAe (by omega) (by omega)) ?_
   refine gr_rd rfl rfl rfl (rd_loadA Tryd.ta34 rfl hca hsa (encId_length _)) ?_
   refine gr_nx rfl rfl rfl (nx_alloc Tryd.zeroValue34 rfl) ?_; rintro _ _ _ _ ⟨b6, rfl, rfl, rfl⟩; refine ⟨trivial, ?_⟩
   refine gr_nx0 rfl rfl (nx_store (vs := encId nk) Tryd.sizeOf34 rfl rfl rfl (encId_length _) upd (by simp) (encId_ones _)) ?_; rintro _ _ _ _ ⟨rfl, rfl, rfl⟩; refine ⟨trivial, ?_⟩
   rw [wr_all (by simp)]
   refine gr_nil (gk_then ?_)
   refine gc_seq (gc_seqr [(.mv, 0), (.mv, 1), (.nm, 2), (.mv, 3), (.mv, 4), (.mv, 5), (.nm, 6), (.nm, 7), (.mv, 8)] rfl ?_)
   refine gm rfl rfl rfl rfl ?_
   refine gr_rd rfl rfl rfl (rd_loadA Tryd.ta34 rfl (Cells.own (l := encId nk) (T := 34) (z := (0, 0)) (by simp [baseL])) (Seg.all _) (encId_length _)) ?_
   refine gr_nx rfl rfl rfl (nx_call Tryd.en15 rfl (get_cc _ _ (hR.view (b := b) (bo := bo) (bw := bw) (bt := bt) (Cells.own (l := [.map (some bo), .map (some bw), .map (some bt)]) (T := 83) (z := (0, 0)) (by simp )) (by simp) (by simp) (by simp)) hsm nk)) ?_; rintro v41 H' L' hle ⟨C7, u, rfl, hO7, rfl, rfl⟩; refine ⟨trivial, ?_⟩
   rw [hp3, Option.getD_some] at hO7
   rw [hp3, hhas, Option.getD_some]
   refine gm rfl rfl rfl rfl ?_
   refine gr_rd rfl rfl rfl (rd_extract rfl rfl) ?_
   refine gr_rd rfl rfl rfl (rd_extract rfl rfl) ?_
   refine gr_nx rfl rfl rfl (nx_alloc Tryd.zeroValue38 rfl) ?_; rintro _ _ _ _ ⟨b7, rfl, rfl, rfl⟩; refine ⟨trivial, ?_⟩
   refine gr_nx0 rfl rfl (nx_store (vs := encOp oq u) Tryd.sizeOf38 rfl rfl rfl (encOp_length _ _) upd (by simp) (encOp_ones _ hO7.one)) ?_; rintro _ _ _ _ ⟨rfl, rfl, rfl⟩; refine ⟨trivial, ?_⟩
   rw [wr_all (by simp)]
   refine ga rfl rfl rfl rfl ?_
   refine gr_nil (gk_then ?_)
   refine gc_seq ?_
   refine gc_draw Tryd.mixed [(.mv, 0), (.mv, 1), (.mv, 2), (.mv, 3), (.mv, 4), (.mv, 5), (.mv, 6), (.mv, 7), (.mv, 8), (.mv, 9), (.nm, 10), (.mv, 11), (.mv, 12), (.fin, 13), (.fin, 14), (.fin, 15)] (by decide +kernel) _ (List.Sublist.refl _) ?_
   refine gm rfl rfl rfl rfl ?_
   refine gr_rd rfl rfl rfl (rd_neq rfl rfl) ?_
   refine gm rfl rfl rfl rfl ?_
   refine gr_rd rfl rfl rfl (rd_loadA Tryd.ta38 rfl (Cells.own (l := encOp oq u) (T := 38) (z := (0, 0)) (by simp [baseL])) (Seg.all _) (encOp_length _ _)) ?_
   refine gm rfl rfl rfl rfl ?_
   refine gr_rd rfl rfl rfl (rd_nilCheck rfl) ?_
   refine gr_rd rfl rfl rfl (rd_fieldAddr Tryd.fa48_0 rfl) ?_
   refine gr_rd rfl rfl rfl (rd_load1 Tryd.to25 rfl ((hVm _ (by intro x hx; simp [baseL, hx])).cells) (by rw [he0]; rfl)) ?_
   refine gm rfl rfl rfl rfl ?_
   refine gr_rd rfl rfl rfl (rd_loadA Tryd.ta34 rfl (Cells.own (l := encId nk) (T := 34) (z := (0, 0)) (by simp [baseL])) (Seg.all _) (encId_length _)) ?_
   refine gr_nx rfl rfl rfl (nx_call Tryd.en23 rfl (rat_cc _ _ (hVm _ (by intro x hx; simp [hx])) nk)) ?_; rintro v54 H' L' hle ⟨rfl, rfl, rfl⟩; refine ⟨kp, ?_⟩
   rw [hp1]
   refine gr_rd rfl rfl rfl (rd_indexS Tryd.underlying25 Tryd.sizeOf38 rfl rfl hA0 (by omega) (by omega)) ?_
   refine gr_rd rfl rfl rfl (rd_loadA Tryd.ta38 rfl (hc01.mono (Gh.le_refl _) (by intro x hx; simp [baseL, hx])) hs0 (encOpV_length _)) ?_
   refine gr_fin rfl rfl rfl (nx_call Tryd.en20 rfl (same_cc _ _ oq oq u pq (Ow.slT encId_length hO7 rfl (Nat.lt_of_le_of_lt (hsm _ (get_mem hp3)) (by decide)) (by intro x hx; simp [hx])) (hq.any))) ?_; rintro v57 H' L' hle ⟨rfl, rfl, rfl⟩
   rw [dec_self oq]
   (refine gr_fin rfl rfl rfl (Rd.nx (rd_not rfl)) ?_; rintro _ _ _ _ ⟨rfl, rfl, rfl⟩)
   (first | (refine gr_fin rfl rfl rfl (Rd.nx (rd_pick_t rfl rfl)) ?_; rintro _ _ _ _ ⟨rfl, rfl, rfl⟩) | (refine gr_fin rfl rfl rfl (Rd.nx (rd_pick_f rfl rfl)) ?_; rintro _ _ _ _ ⟨rfl, rfl, rfl⟩))
   refine gr_nil (gk_then ?_)
   refine gc_no rfl ?_
   refine gc_skip ?_
   refine gk_inBlock ?_
   refine gk_then ?_
   refine gc_seqr [(.mv, 0), (.mv, 1)] rfl ?_
   (first | refine gr_rd rfl rfl rfl (rd_add rfl rfl (IntWalk.i64_in _ (by omega))) ?_ | refine gr_rd rfl rfl rfl (rd_add rfl rfl rfl) ?_)
   refine gm rfl rfl rfl rfl ?_
   refine gr_nil ?_
   refine gk_drop (L' := (Cn ++ ((b, .cells [.map (some bo), .map (some bw), .map (some bt)].toArray 83 (0, 0)) :: (bo, ob) :: (bw, ow) :: (bt, ot) :: L))) sba ?_
   refine gk_round (k + 1) ?_ ⟨rfl, rfl, by omega⟩ sbs
   show (names s).length - (k + 1) < (names s).length - k
   omega
  ·skip
   refine gc_exit ?_
   refine gk_exit_then ?_
   refine gk_exit_then ?_
   refine gk_here ?_
   refine gk_then ?_
   refine gc_seq (gc_seqr [(.mv, 0)] rfl ?_)
   refine ga rfl rfl rfl rfl ?_
   refine gr_nil (gk_then ?_)
   refine gc_ret ?_
   refine gk_drop (L' := ((b, .cells [.map (some bo), .map (some bw), .map (some bt)].toArray 83 (0, 0)) :: (bo, ob) :: (bw, ow) :: (bt, ot) :: L)) sba ?_
   refine gk_result (L' := ((b, .cells [.map (some bo), .map (some bw), .map (some bt)].toArray 83 (0, 0)) :: (bo, ob) :: (bw, ow) :: (bt, ot) :: L)) (.inl rfl) _ (res1 rfl rfl) (List.Sublist.refl _) (Gh.le_refl _) ?_
   exact ⟨rfl, rfl, rfl⟩
end Go.Proofs.YtfhldfjknagidaaDoor

/-
  Walks: what is there is closed.
-/
set_option linter.unusedSimpArgs false
set_option linter.unusedVariables false
set_option linter.unnecessarySimpa false
set_option linter.all false
namespace Go.Proofs.YtfhldfjknagidaaDoor
open Go.VK Go.Tr
set_option maxRecDepth 20000
attribute [local irreducible] Go.Tr.sha
theorem get_append {l : List (Nm × POp)} {n m : Nm} {o : POp} (h : has l m = true) : Tr.get (l ++ [(n, o)]) m = Tr.get l m := by
  rw [← get_isSome] at h
  simp only [Tr.get, List.find?_append] at h ⊢
  cases hf : l.find? (fun p => p.1 == m) with
  | none => rw [hf] at h; cases h
  | some p => rfl
theorem has_append (l l' : List (Nm × POp)) (m : Nm) : has (l ++ l') m = (has l m || has l' m) := by simp [has]
theorem deepest_congr {s s' : DSet} : ∀ (ps : List Nm) (z : Int), (∀ p ∈ ps, Tr.get s'.ops p = Tr.get s.ops p) → ps.foldl (fun n p => max n ((Tr.get s'.ops p).elim 0 (·.depth))) z = ps.foldl (fun n p => max n ((Tr.get s.ops p).elim 0 (·.depth))) z
  | [], _, _ => rfl
  | p :: r, z, h => by
    simp only [List.foldl_cons, h p List.mem_cons_self]
    exact deepest_congr r _ fun q hq => h q (List.mem_cons_of_mem _ hq)
theorem whole_mem {s : DSet} {o : POp} : whole s o = true ↔ ∀ p ∈ o.preds, has s.ops p = true := by rw [whole, List.all_eq_true]
/-- A set in which each operation has all that stands ahead of it, and its right depth; P: what holds of all that came. -/
structure Closed (P : POp → Prop) (s : DSet) : Prop where
  nd : (s.ops.map (·.1) ++ s.wait.map (·.1)).Nodup
  nm : ∀ p ∈ s.ops ++ s.wait, nameOf p.2 = p.1 ∧ good p.2 = true ∧ P p.2
  cl : ∀ p ∈ s.ops, whole s p.2 = true ∧ p.2.depth = depthOf s p.2.preds
theorem Closed.empty (P : POp → Prop) : Closed P DSet.empty := ⟨List.nodup_nil, (fun p hp => by cases hp), (fun p hp => by cases hp)⟩
theorem not_in_both {s : DSet} {n : Nm} (ho : has s.ops n = false) (hw : has s.wait n = false) : n ∉ s.ops.map (·.1) ++ s.wait.map (·.1) := by
  rw [List.mem_append, not_or]
  exact ⟨fun hx => (by rw [has_mem.2 hx] at ho; cases ho), fun hx => (by rw [has_mem.2 hx] at hw; cases hw)⟩
theorem Closed.put {P : POp → Prop} {s : DSet} {o : POp} (h : Closed P s) (ho : has s.ops (nameOf o) = false) (hw : has s.wait (nameOf o) = false) (hg : good o = true) (hP : P o) (hwh : whole s o = true) (hd : o.depth = depthOf s o.preds) :
    Closed P ⟨s.ops ++ [(nameOf o, o)], s.wait⟩ := by
  refine ⟨?_, fun p hp => ?_, fun p hp => ?_⟩
  · have hp : ((s.ops ++ [(nameOf o, o)]).map (·.1) ++ s.wait.map (·.1)).Perm (nameOf o :: (s.ops.map (·.1) ++ s.wait.map (·.1))) := by
      simp only [List.map_append, List.map_cons, List.map_nil, List.append_assoc, List.singleton_append]
      exact List.perm_middle
    exact hp.nodup_iff.2 (List.nodup_cons.2 ⟨not_in_both ho hw, h.nd⟩)
  · simp only [List.mem_append, List.mem_singleton] at hp
    rcases hp with (hp | rfl) | hp
    · exact h.nm p (List.mem_append_left _ hp)
    · exact ⟨rfl, hg, hP⟩
    · exact h.nm p (List.mem_append_right _ hp)
  · have key : whole s p.2 = true ∧ p.2.depth = depthOf s p.2.preds := by
      rcases List.mem_append.1 hp with hp | hp
      · exact h.cl p hp
      · rw [List.mem_singleton.1 hp]; exact ⟨hwh, hd⟩
    have hall := whole_mem.1 key.1
    refine ⟨whole_mem.2 fun q hq => by simp only [has_append, hall q hq, Bool.true_or], ?_⟩
    rw [key.2, depthOf, depthOf, deepest, deepest, deepest_congr (s := s) (s' := ⟨s.ops ++ [(nameOf o, o)], s.wait⟩) _ _ fun q hq => get_append (hall q hq)]
theorem Closed.come {P : POp → Prop} {s : DSet} {o : POp} (h : Closed P s) (ho : has s.ops (nameOf o) = false) (hw : has s.wait (nameOf o) = false) (hg : good o = true) (hP : P o) : Closed P ⟨s.ops, s.wait ++ [(nameOf o, o)]⟩ := by
  refine ⟨?_, fun p hp => ?_, h.cl⟩
  · have hp : (s.ops.map (·.1) ++ (s.wait ++ [(nameOf o, o)]).map (·.1)).Perm (nameOf o :: (s.ops.map (·.1) ++ s.wait.map (·.1))) := by
      simp only [List.map_append, List.map_cons, List.map_nil]
      rw [← List.append_assoc]
      exact List.perm_append_singleton _ _
    exact hp.nodup_iff.2 (List.nodup_cons.2 ⟨not_in_both ho hw, h.nd⟩)
  · simp only [List.mem_append, List.mem_singleton] at hp
    rcases hp with hp | hp | rfl
    · exact h.nm p (List.mem_append_left _ hp)
    · exact h.nm p (List.mem_append_right _ hp)
    · exact ⟨rfl, hg, hP⟩
theorem Closed.drop {P : POp → Prop} {s : DSet} (h : Closed P s) (f : Nm × POp → Bool) : Closed P ⟨s.ops, s.wait.filter f⟩ :=
  ⟨h.nd.sublist (List.Sublist.append (List.Sublist.refl _) (List.filter_sublist.map _)), fun p hp => h.nm p (by
    rcases List.mem_append.1 hp with hp | hp
    · exact List.mem_append_left _ hp
    · exact List.mem_append_right _ (List.mem_filter.1 hp).1), h.cl⟩
theorem Closed.settle {P : POp → Prop} : ∀ (k : Nat) (s : DSet) (out : List Nm), Closed P s → Closed P (Tr.settle k s out).1
  | 0, s, out, h => h
  | k + 1, s, out, h => by
    have hnd : (s.wait.map (·.1)).Nodup := (List.nodup_append.1 h.nd).2.1
    cases hr : readyOf s with
    | none => rw [settle_done hnd hr]; exact h
    | some n =>
      obtain ⟨q, h1, h2, h3⟩ := settle_next (k := k) (out := out) hnd hr
      rw [h3]
      have hm := get_mem h1
      have hn := (h.nm _ (List.mem_append_right _ hm))
      simp only at hn
      have hho : has s.ops n = false := by
        cases hh : has s.ops n with
        | false => rfl
        | true => exact absurd rfl ((List.nodup_append.1 h.nd).2.2 n (has_mem.1 hh) n (List.mem_map.2 ⟨_, hm, rfl⟩))
      obtain ⟨rfl, hg, hP⟩ := hn
      split
      · rename_i hd
        exact Closed.settle k _ _ ((h.drop _).put hho (has_dropped _ _) hg hP h2 hd)
      · exact Closed.settle k _ _ (h.drop _)
theorem Closed.take {P : POp → Prop} {s : DSet} {o : POp} (h : Closed P s) (hP : P o) : Closed P (Tr.take s o).1 := by
  unfold Tr.take
  split
  · exact h
  · rename_i hg
    split
    · exact h
    · rename_i hno
      have hgd : good o = true := by simpa using hg
      simp only [Bool.or_eq_true, not_or, Bool.not_eq_true] at hno
      split
      · exact h.come hno.1 hno.2 hgd hP
      · rename_i hw
        split
        · exact h
        · rename_i hd
          exact Closed.settle _ _ _ (h.put hno.1 hno.2 hgd hP (by simpa using hw) (by simpa using hd))
theorem Closed.get {P : POp → Prop} {s : DSet} {n : Nm} {o : POp} (h : Closed P s) (hg : Tr.get s.ops n = some o) : nameOf o = n ∧ good o = true ∧ P o ∧ whole s o = true ∧ o.depth = depthOf s o.preds ∧ n ∉ waits s := by
  have hm := get_mem hg
  obtain ⟨h1, h2, h3⟩ := h.nm _ (List.mem_append_left _ hm)
  obtain ⟨h4, h5⟩ := h.cl _ hm
  refine ⟨h1, h2, h3, h4, h5, fun hw => ?_⟩
  rw [waits, mem_rising] at hw
  exact (List.nodup_append.1 h.nd).2.2 n (List.mem_map.2 ⟨_, hm, rfl⟩) n hw rfl
structure DS where
  k : Nat
  s : DSet
  ob : Obj
  ow : Obj
  ot : Obj

set_option maxHeartbeats 4000000 in
theorem dagClosed_cc (H : Gh) (hG : Glob H) (L : Chunks) (v vo : Value) (xs : List (Tr.Make × Value)) (ns : List Int) (hM : SlT encMakeV 78 H [] v xs) (hMp : ∀ p ∈ xs, Ids H [] p.2 p.1.op.preds) (hMr : ∀ p ∈ xs, RngM p.1) (hI : Ints H [] vo ns) :
    CC Tryd.prog 3 #[v, vo] H L (fun u H' L' => u = .bool true ∧ L = L') := by
 have hLE := Gh.le_refl H
 obtain ⟨Ai, ci, rfl⟩ : ∃ a c, vo = .slice a ns.length c := by obtain ⟨a, _, _, c, _, h, _⟩ := hI; exact ⟨a, c, h⟩
 refine cc_of Tryd.func3 rfl (Nat.le_of_ble_eq_true rfl) ?_
 simp only [Tryd.ntmps3]
 refine gc_seq (gc_seqr [(.mv, 0)] rfl ?_)
 refine ga rfl rfl rfl rfl ?_
 refine gr_nil (gk_then ?_)
 refine gc_seq ?_
 refine gc_seq (gc_seqr [(.nm, 0), (.mv, 1)] rfl ?_)
 refine gr_nx rfl rfl rfl (nx_call Tryd.en10 rfl (alive_cc _ hG _)) ?_; rintro v18 H' L' hle ⟨rfl, rfl⟩; refine ⟨trivial, ?_⟩
 have hLE := Gh.le_trans hLE hle
 replace hG := hG.mono hle
 replace hM := hM.up hle
 replace hI := hI.up hle
 replace hMp : ∀ p ∈ xs, Ids _ [] p.2 p.1.op.preds := fun p hp => (hMp p hp).up hle
 refine gr_rd rfl rfl rfl (rd_not rfl) ?_
 refine gr_nil (gk_then ?_)
 refine gc_no rfl ?_
 refine gc_skip ?_
 refine gk_then ?_
 refine gc_seq (gc_seqr [(.mv, 0), (.nm, 1), (.mv, 2)] rfl ?_)
 refine gm rfl rfl rfl rfl ?_
 refine gr_nx rfl rfl rfl (nx_call Tryd.en11 rfl (made_cc _ _ _ xs hM hMp hMr)) ?_; rintro v21 H' L' hle ⟨ov, Cm, hOm, hmade, hov, hol, rfl⟩; refine ⟨trivial, ?_⟩
 obtain ⟨Ao, co, rfl, hco⟩ := hOm.slice
 have hLE := Gh.le_trans hLE hle
 replace hG := hG.mono hle
 replace hI := hI.up hle
 refine gr_sealOw encOpV_length hOm rfl (by omega) (fun HH hle hsm => ?_)
 have hLE := Gh.le_trans hLE hle
 replace hG := hG.mono hle
 replace hI := hI.up hle
 replace hov : ∀ p ∈ ov, Ids HH [] p.2 p.1.preds ∧ FitO p.1 := fun p hp => ⟨(hov p hp).1.up hle, (hov p hp).2⟩
 refine ga rfl rfl rfl rfl ?_
 refine gr_nil (gk_then ?_)
 refine gc_seq ?_
 refine gc_seq (gc_seqr [(.mv, 0), (.mv, 1), (.mv, 2), (.mv, 3), (.mv, 4), (.mv, 5), (.mv, 6), (.mv, 7)] rfl ?_)
 refine gm rfl rfl rfl rfl ?_
 refine gr_rd rfl rfl rfl (rd_lenS Tryd.underlying23 rfl) ?_
 refine gr_rd rfl rfl rfl (rd_gtr rfl rfl) ?_
 refine gm rfl rfl rfl rfl ?_
 refine gr_split rfl (fun hg3 => ?_) (fun hg3 => ?_)
 ·skip
  refine gr_no rfl rfl rfl ?_
  refine gr_no rfl rfl rfl ?_
  refine gr_no rfl rfl rfl ?_
  (first | refine gpt rfl rfl rfl rfl rfl ?_ | refine gpf rfl rfl rfl rfl rfl ?_)
  refine gr_nil (gk_then ?_)
  refine gc_yes rfl ?_
  refine gc_seq (gc_seqr [(.mv, 0)] rfl ?_)
  refine ga rfl rfl rfl rfl ?_
  refine gr_nil (gk_then ?_)
  refine gc_ret ?_
  refine gk_ret_then ?_
  refine gk_drop (L' := L) sba ?_
  refine gk_result (L' := L) (.inl rfl) _ (res1 rfl rfl) (List.Sublist.refl _) gle ?_
  exact ⟨rfl, rfl⟩
 ·skip
  refine gm rfl rfl rfl rfl ?_
  refine gr_rd rfl rfl rfl (rd_lenS Tryd.underlying25 rfl) ?_
  refine gr_rd rfl rfl rfl (rd_eql rfl rfl) ?_
  (first | refine gpt rfl rfl rfl rfl rfl ?_ | refine gpf rfl rfl rfl rfl rfl ?_)
  refine gr_nil (gk_then ?_)
  refine gc_cond rfl (fun hcR4 => ?_) (fun hcR4 => ?_)
  ·skip
   refine gc_seq (gc_seqr [(.mv, 0)] rfl ?_)
   refine ga rfl rfl rfl rfl ?_
   refine gr_nil (gk_then ?_)
   refine gc_ret ?_
   refine gk_ret_then ?_
   refine gk_drop (L' := L) sba ?_
   refine gk_result (L' := L) (.inl rfl) _ (res1 rfl rfl) (List.Sublist.refl _) gle ?_
   exact ⟨rfl, rfl⟩
  ·have hns : ¬ (60 : Int) < ns.length := by simpa using hg3
   have hol0 : ov.length ≠ 0 := by have := hcR4; simp at this; simpa using this
   have hpos : 0 < ov.length := by omega
   refine gc_skip ?_
   refine gk_then ?_
   refine gc_seq (gc_seqr [(.nm, 0), (.mv, 1)] rfl ?_)
   refine gr_nx rfl rfl rfl (nx_call Tryd.en12 rfl (new_cc _ _)) ?_; rintro v30 H' L' hle ⟨b, bo, bw, bt, ob0, ow0, ot0, rfl, hR0, rfl, rfl⟩; refine ⟨trivial, ?_⟩
   refine ga rfl rfl rfl rfl ?_
   refine gr_nil (gk_then ?_)
   refine gc_seq ?_
   refine gc_seq (gc_seqr [(.mv, 0), (.mv, 1), (.mv, 2)] rfl ?_)
   refine gm rfl rfl rfl rfl ?_
   refine gr_rd rfl rfl rfl (rd_lenS Tryd.underlying23 rfl) ?_
   refine gm rfl rfl rfl rfl ?_
   refine gr_nil (gk_then ?_)
   refine gc_block ?_
   refine gc_loop (fun t : DS => [(5, .slice Ao ov.length co), (6, pt b 0), (31, .slice Ai ns.length ci), (32, i64 ns.length), (33, i64 t.k)]) (fun t H1 L1 => HH ≤ H1 ∧ ((b, .cells [.map (some bo), .map (some bw), .map (some bt)].toArray 83 (0, 0)) :: (bo, t.ob) :: (bw, t.ow) :: (bt, t.ot) :: L) = L1 ∧ DRep H1 t.s t.ob t.ow t.ot ∧ Closed FitO t.s ∧ t.k ≤ ns.length ∧ t.s.ops.length + t.s.wait.length ≤ t.k) (fun t => ns.length - t.k) (⟨0, DSet.empty, ob0, ow0, ot0⟩) ?_ sbs ?_
   ·exact ⟨Gh.le_refl _, rfl, hR0, Closed.empty _, Nat.zero_le _, Nat.le_refl _⟩
   ·rintro ⟨k, s, ob, ow, ot⟩ H1 L1 ⟨hle, rfl, hR, hC, hk, hsz⟩
    simp only at hR hC hk hsz
    have hLE := Gh.le_trans hLE hle
    replace hG := hG.mono hle
    replace hI := hI.up hle
    replace hsm := hsm.up hle
    replace hov : ∀ p ∈ ov, Ids H1 [] p.2 p.1.preds ∧ FitO p.1 := fun p hp => ⟨(hov p hp).1.up hle, (hov p hp).2⟩
    show GC _ _ _ _ [(5, .slice Ao ov.length co), (6, pt b 0), (31, .slice Ai ns.length ci), (32, i64 ns.length), (33, i64 k)] H1 ((b, .cells [.map (some bo), .map (some bw), .map (some bt)].toArray 83 (0, 0)) :: (bo, ob) :: (bw, ow) :: (bt, ot) :: L)
    refine gc_seq (gc_seqr [(.mv, 0)] rfl ?_)
    refine gr_rd rfl rfl rfl (rd_lss rfl rfl) ?_
    refine gr_nil (gk_then ?_)
    refine gc_seq ?_
    refine gc_cond rfl (fun hcR8 => ?_) (fun hcR8 => ?_)
    ·have hlt : k < ns.length := by simpa using hcR8
     obtain ⟨_, bi, oi, _, li, hei, hci, hni, hi0, hi1, hi2⟩ := hI
     cases hei
     obtain ⟨hAi, hca, hsa⟩ := slt_at (i := (k : Int)) hi1 hi2 (List.getElem?_eq_getElem hlt) rfl
     have hp1 := pick_lt ns[k] hpos
     obtain ⟨⟨q, pq⟩, hpq⟩ : ∃ p, ov[pickAt ns[k] ov.length]? = some p := ⟨_, List.getElem?_eq_getElem hp1⟩
     obtain ⟨_, bm, om, _, lm, hem, hcm, hnm, hm0, hm1, hm2⟩ := hsm
     cases hem
     obtain ⟨hAo, hcA, hsA⟩ := slt_at (i := ((pickAt ns[k] ov.length : Nat) : Int)) hm1 hm2 hpq rfl
     obtain ⟨hqi, hfit⟩ := hov _ (List.mem_of_getElem? hpq)
     simp only at hqi hfit
     have htl := take_len s q
     have hkk : k ≤ 60 := by omega
     refine gc_skip ?_
     refine gk_then ?_
     refine gc_seq ?_
     refine gc_block ?_
     refine gc_seq (gc_seqr [(.mv, 0), (.mv, 1), (.mv, 2)] rfl ?_)
     refine gr_rd rfl rfl rfl (rd_indexS Tryd.underlying23 Tryd.sizeOf3 rfl rfl hAi (by omega) (by omega)) ?_
     refine gr_rd rfl rfl rfl (rd_load1 Tryd.to3 rfl (hca.mono (Gh.le_refl _) (fun x hx => by cases hx)) (by have := hsa 0 _ rfl; simpa using this)) ?_
     refine ga rfl rfl rfl rfl ?_
     refine gr_nil (gk_then ?_)
     refine gc_seqr [(.mv, 0), (.mv, 1), (.mv, 2), (.mv, 3), (.mv, 4), (.mv, 5), (.mv, 6), (.mv, 7), (.mv, 8), (.mv, 9), (.mv, 10), (.nm, 11)] rfl ?_
     refine gm rfl rfl rfl rfl ?_
     refine gm rfl rfl rfl rfl ?_
     refine gm rfl rfl rfl rfl ?_
     (first | refine gr_rd rfl rfl rfl (rd_convInt Tryd.underlying3 Tryd.underlying39 rfl (IntWalk.u64_in _ (by omega))) ?_ | refine gr_rd rfl rfl rfl (rd_convInt Tryd.underlying3 Tryd.underlying39 rfl rfl) ?_)
     refine gm rfl rfl rfl rfl ?_
     refine gr_rd rfl rfl rfl (rd_lenS Tryd.underlying25 rfl) ?_
     (first | refine gr_rd rfl rfl rfl (rd_convInt Tryd.underlying3 Tryd.underlying39 rfl (IntWalk.u64_in _ (by omega))) ?_ | refine gr_rd rfl rfl rfl (rd_convInt Tryd.underlying3 Tryd.underlying39 rfl rfl) ?_)
     refine gr_rd rfl rfl rfl (rd_rem rfl rfl (by omega) rfl) ?_
     refine gr_rd rfl rfl rfl (rd_convInt Tryd.underlying39 Tryd.underlying3 rfl (pick_wrap _ hpos (by omega))) ?_
     refine gr_rd rfl rfl rfl (rd_indexS Tryd.underlying25 Tryd.sizeOf38 rfl rfl hAo (by omega) (by omega)) ?_
     refine gr_rd rfl rfl rfl (rd_loadA Tryd.ta38 rfl (hcA.mono (Gh.le_refl _) (fun x hx => by cases hx)) hsA (encOpV_length _)) ?_
     refine gr_nx rfl rfl rfl (nx_call Tryd.en13 rfl (take_cc _ hG _ hR (by omega) q pq (hqi.any) hfit.small)) ?_; rintro v48 H' L' hle ⟨ob2, ow2, ot2, C2, vo2, hR2, hO2, rfl, rfl⟩; refine ⟨trivial, ?_⟩
     refine gr_nil ?_
     refine gk_inBlock ?_
     refine gk_then ?_
     refine gc_seqr [(.mv, 0), (.mv, 1)] rfl ?_
     (first | refine gr_rd rfl rfl rfl (rd_add rfl rfl (IntWalk.i64_in _ (by omega))) ?_ | refine gr_rd rfl rfl rfl (rd_add rfl rfl rfl) ?_)
     refine gm rfl rfl rfl rfl ?_
     refine gr_nil ?_
     refine gk_drop (L' := ((b, .cells [.map (some bo), .map (some bw), .map (some bt)].toArray 83 (0, 0)) :: (bo, ob2) :: (bw, ow2) :: (bt, ot2) :: L)) sba ?_
     refine gk_round ⟨k + 1, (take s q).1, ob2, ow2, ot2⟩ ?_ ⟨by first | assumption | exact Gh.le_trans (by assumption) (by assumption), rfl, hR2, hC.take hfit, by simp only; omega, by simp only; omega⟩ sbs
     show ns.length - (k + 1) < ns.length - k
     omega
    ·have hsm2 : ∀ p ∈ s.ops, p.2.preds.length ≤ 32 := fun p hp => hR.small p (List.mem_append_left _ hp)
     have hnl := names_length s
     have hwl := waits_length s
     have hk60 : k ≤ 60 := by omega
     refine gc_exit ?_
     refine gk_exit_then ?_
     refine gk_exit_then ?_
     refine gk_here ?_
     refine gk_then ?_
     refine gc_seq ?_
     refine gc_seq (gc_seqr [(.mv, 0), (.nm, 1), (.mv, 2), (.mv, 3)] rfl ?_)
     refine gm rfl rfl rfl rfl ?_
     refine gr_nx rfl rfl rfl (nx_call Tryd.en14 rfl (names_cc _ _ hR (by omega))) ?_; rintro v51 H' L' hle ⟨Cn, hOn, rfl, rfl⟩; refine ⟨trivial, ?_⟩
     obtain ⟨An, cn, rfl, hcn⟩ := hOn.slice
     obtain ⟨_, bn, on, cn2, ln, hne, hcn2, hnn, hn0, hn1, hn2⟩ := (Ow.slT (H := H1) (L := (Cn ++ ((b, .cells [.map (some bo), .map (some bw), .map (some bt)].toArray 83 (0, 0)) :: (bo, ob) :: (bw, ow) :: (bt, ot) :: L))) (xs := names s) encId_length hOn rfl (by omega) (by intro x hx; simp [hx]))
     cases hne
     refine gr_rd rfl rfl rfl (rd_lenS Tryd.underlying29 rfl) ?_
     refine gm rfl rfl rfl rfl ?_
     refine gr_nil (gk_then ?_)
     refine gc_block ?_
     refine gc_loop (fun t : Nat => [(6, pt b 0), (51, .slice An (names s).length cn), (52, i64 (names s).length), (53, i64 t)]) (fun t H2 L2 => H1 = H2 ∧ (Cn ++ ((b, .cells [.map (some bo), .map (some bw), .map (some bt)].toArray 83 (0, 0)) :: (bo, ob) :: (bw, ow) :: (bt, ot) :: L)) = L2 ∧ t ≤ (names s).length) (fun t => (names s).length - t) (0) ?_ sbs ?_
     ·exact ⟨rfl, rfl, Nat.zero_le _⟩
     ·rintro k2 H2 L2 ⟨rfl, rfl, hk2⟩
      show GC _ _ _ _ [(6, pt b 0), (51, .slice An (names s).length cn), (52, i64 (names s).length), (53, i64 k2)] H1 (Cn ++ ((b, .cells [.map (some bo), .map (some bw), .map (some bt)].toArray 83 (0, 0)) :: (bo, ob) :: (bw, ow) :: (bt, ot) :: L))
      refine gc_seq (gc_seqr [(.mv, 0)] rfl ?_)
      refine gr_rd rfl rfl rfl (rd_lss rfl rfl) ?_
      refine gr_nil (gk_then ?_)
      refine gc_seq ?_
      refine gc_cond rfl (fun hcR13 => ?_) (fun hcR13 => ?_)
      ·have hlt : k2 < (names s).length := by simpa using hcR13
       obtain ⟨hAe, hca, hsa⟩ := ids_at2 (i := (k2 : Int)) hn1 hn2 hlt rfl
       obtain ⟨nk, hnk⟩ : ∃ nk, ((names s).getD k2 Nm.zero) = nk := ⟨_, rfl⟩
       rw [hnk] at hsa
       have hhas : has s.ops nk = true := by
         rw [← hnk]
         exact names_has.1 (List.mem_of_getElem? (getD_at hlt))
       obtain ⟨oq, hgo⟩ := Option.isSome_iff_exists.1 (show (Tr.get s.ops nk).isSome = true by rw [get_isSome]; exact hhas)
       obtain ⟨hname, hgood, hfit, hwh, hdep, hnw⟩ := hC.get hgo
       have hql := good_small hgood
       refine gc_skip ?_
       refine gk_then ?_
       refine gc_seq ?_
       refine gc_block ?_
       refine gc_seq (gc_seqr [(.mv, 0), (.mv, 1), (.nm, 2), (.nm, 3)] rfl ?_)
       refine gr_rd rfl rfl rfl (rd_indexS Tryd.underlying29 Tryd.sizeOf34 rfl rfl hAe (by omega) (by omega)) ?_
       refine gr_rd rfl rfl rfl (rd_loadA Tryd.ta34 rfl hca hsa (encId_length _)) ?_
       refine gr_nx rfl rfl rfl (nx_alloc Tryd.zeroValue34 rfl) ?_; rintro _ _ _ _ ⟨b10, rfl, rfl, rfl⟩; refine ⟨trivial, ?_⟩
       refine gr_nx0 rfl rfl (nx_store (vs := encId nk) Tryd.sizeOf34 rfl rfl rfl (encId_length _) upd (by simp) (encId_ones _)) ?_; rintro _ _ _ _ ⟨rfl, rfl, rfl⟩; refine ⟨trivial, ?_⟩
       rw [wr_all (by simp)]
       refine gr_nil (gk_then ?_)
       refine gc_seq (gc_seqr [(.mv, 0), (.mv, 1), (.nm, 2), (.mv, 3), (.mv, 4), (.mv, 5), (.nm, 6), (.nm, 7), (.mv, 8)] rfl ?_)
       refine gm rfl rfl rfl rfl ?_
       refine gr_rd rfl rfl rfl (rd_loadA Tryd.ta34 rfl (Cells.own (l := encId nk) (T := 34) (z := (0, 0)) (by simp [baseL])) (Seg.all _) (encId_length _)) ?_
       refine gr_nx rfl rfl rfl (nx_call Tryd.en15 rfl (get_cc _ _ (hR.view (b := b) (bo := bo) (bw := bw) (bt := bt) (Cells.own (l := [.map (some bo), .map (some bw), .map (some bt)]) (T := 83) (z := (0, 0)) (by simp )) (by simp) (by simp) (by simp)) hsm2 nk)) ?_; rintro v60 H' L' hle ⟨C7, u7, rfl, hO7, rfl, rfl⟩; refine ⟨trivial, ?_⟩
       rw [hgo, Option.getD_some] at hO7
       rw [hgo, hhas, Option.getD_some]
       obtain ⟨a7, c7, rfl, hc7⟩ := hO7.slice
       refine gm rfl rfl rfl rfl ?_
       refine gr_rd rfl rfl rfl (rd_extract rfl rfl) ?_
       refine gr_rd rfl rfl rfl (rd_extract rfl rfl) ?_
       refine gr_nx rfl rfl rfl (nx_alloc Tryd.zeroValue38 rfl) ?_; rintro _ _ _ _ ⟨b11, rfl, rfl, rfl⟩; refine ⟨trivial, ?_⟩
       refine gr_nx0 rfl rfl (nx_store (vs := encOp oq (.slice a7 oq.preds.length c7)) Tryd.sizeOf38 rfl rfl rfl (encOp_length _ _) upd (by simp) (encOp_ones _ rfl)) ?_; rintro _ _ _ _ ⟨rfl, rfl, rfl⟩; refine ⟨trivial, ?_⟩
       rw [wr_all (by simp)]
       refine ga rfl rfl rfl rfl ?_
       refine gr_nil (gk_then ?_)
       refine gc_seq (gc_seqr [(.mv, 0)] rfl ?_)
       refine ga rfl rfl rfl rfl ?_
       refine gr_nil (gk_then ?_)
       refine gc_seq ?_
       refine gc_seq (gc_seqr [(.mv, 0), (.mv, 1), (.mv, 2), (.mv, 3)] rfl ?_)
       refine gr_perm (L' := ((b, .cells [.map (some bo), .map (some bw), .map (some bt)].toArray 83 (0, 0)) :: (bo, ob) :: (bw, ow) :: (bt, ot) :: ((b11, .cells (encOp oq (.slice a7 oq.preds.length c7)).toArray 38 (0, 0)) :: (C7 ++ ((b10, .cells (encId nk).toArray 34 (0, 0)) :: (Cn ++ L)))))) (by haveI : DecidableEq (Nat × Obj) := fun _ _ => Classical.propDecidable _; rw [List.perm_iff_count]; intro a; simp only [List.count_append, List.count_cons, List.count_nil]; ac_rfl) ?_
       refine gr_rd rfl rfl rfl (rd_fieldAddr Tryd.fa38_3 rfl) ?_
       refine gr_rd rfl rfl rfl (rd_load1 Tryd.to29 rfl (Cells.own (l := encOp oq (.slice a7 oq.preds.length c7)) (T := 38) (z := (0, 0)) (by simp [baseL])) (encOp_37 _ _)) ?_
       refine gr_rd rfl rfl rfl (rd_lenS Tryd.underlying29 rfl) ?_
       obtain ⟨_, b7, o7, c7b, l7, he7, hc7b, hn7, h70, h71, h72⟩ := (Ow.slT (H := H1) (L := ((b, .cells [.map (some bo), .map (some bw), .map (some bt)].toArray 83 (0, 0)) :: (bo, ob) :: (bw, ow) :: (bt, ot) :: ((b11, .cells (encOp oq (.slice a7 oq.preds.length c7)).toArray 38 (0, 0)) :: (C7 ++ ((b10, .cells (encId nk).toArray 34 (0, 0)) :: (Cn ++ L)))))) (xs := oq.preds) encId_length hO7 rfl (by omega) (by intro x hx; simp [hx]))
       cases he7
       refine gm rfl rfl rfl rfl ?_
       refine gr_nil (gk_then ?_)
       refine gc_block ?_
       refine gc_loop (fun t : Nat => [(6, pt b 0), (51, .slice An (names s).length cn), (52, i64 (names s).length), (53, i64 k2), (10, pt b10 0), (11, pt b11 0), (12, i64 0), (13, i64 (deepest s (oq.preds.take t))), (64, .slice a7 oq.preds.length c7), (65, i64 oq.preds.length), (66, i64 t)]) (fun t H2 L2 => H1 = H2 ∧ ((b, .cells [.map (some bo), .map (some bw), .map (some bt)].toArray 83 (0, 0)) :: (bo, ob) :: (bw, ow) :: (bt, ot) :: ((b11, .cells (encOp oq (.slice a7 oq.preds.length c7)).toArray 38 (0, 0)) :: (C7 ++ ((b10, .cells (encId nk).toArray 34 (0, 0)) :: (Cn ++ L))))) = L2 ∧ t ≤ oq.preds.length) (fun t => oq.preds.length - t) (0) ?_ sbs ?_
       ·exact ⟨rfl, rfl, Nat.zero_le _⟩
       ·rintro j H2 L2 ⟨rfl, rfl, hj⟩
        show GC _ _ _ _ [(6, pt b 0), (51, .slice An (names s).length cn), (52, i64 (names s).length), (53, i64 k2), (10, pt b10 0), (11, pt b11 0), (12, i64 0), (13, i64 (deepest s (oq.preds.take j))), (64, .slice a7 oq.preds.length c7), (65, i64 oq.preds.length), (66, i64 j)] H1 ((b, .cells [.map (some bo), .map (some bw), .map (some bt)].toArray 83 (0, 0)) :: (bo, ob) :: (bw, ow) :: (bt, ot) :: ((b11, .cells (encOp oq (.slice a7 oq.preds.length c7)).toArray 38 (0, 0)) :: (C7 ++ ((b10, .cells (encId nk).toArray 34 (0, 0)) :: (Cn ++ L)))))
        refine gc_seq (gc_seqr [(.mv, 0)] rfl ?_)
        refine gr_rd rfl rfl rfl (rd_lss rfl rfl) ?_
        refine gr_nil (gk_then ?_)
        refine gc_seq ?_
        refine gc_cond rfl (fun hcR18 => ?_) (fun hcR18 => ?_)
        ·have hltj : j < oq.preds.length := by simpa using hcR18
         obtain ⟨hAj, hcj, hsj⟩ := ids_at2 (i := (j : Int)) h71 h72 hltj rfl
         have hpjm := List.mem_of_getElem? (getD_at hltj)
         have hstep := fun oj => deepest_step (s := s) (o := oj) (getD_at hltj)
         obtain ⟨pj, hpj⟩ : ∃ pj, (oq.preds.getD j Nm.zero) = pj := ⟨_, rfl⟩
         rw [hpj] at hsj hpjm hstep
         have hhj := whole_mem.1 hwh pj hpjm
         obtain ⟨oj, hgj⟩ := Option.isSome_iff_exists.1 (show (Tr.get s.ops pj).isSome = true by rw [get_isSome]; exact hhj)
         refine gc_skip ?_
         refine gk_then ?_
         refine gc_seq ?_
         refine gc_block ?_
         refine gc_seq (gc_seqr [(.mv, 0), (.mv, 1), (.nm, 2), (.nm, 3)] rfl ?_)
         refine gr_rd rfl rfl rfl (rd_indexS Tryd.underlying29 Tryd.sizeOf34 rfl rfl hAj (by omega) (by omega)) ?_
         refine gr_rd rfl rfl rfl (rd_loadA Tryd.ta34 rfl hcj hsj (encId_length _)) ?_
         refine gr_nx rfl rfl rfl (nx_alloc Tryd.zeroValue34 rfl) ?_; rintro _ _ _ _ ⟨b15, rfl, rfl, rfl⟩; refine ⟨trivial, ?_⟩
         refine gr_nx0 rfl rfl (nx_store (vs := encId pj) Tryd.sizeOf34 rfl rfl rfl (encId_length _) upd (by simp) (encId_ones _)) ?_; rintro _ _ _ _ ⟨rfl, rfl, rfl⟩; refine ⟨trivial, ?_⟩
         rw [wr_all (by simp)]
         refine gr_nil (gk_then ?_)
         refine gc_seq (gc_seqr [(.mv, 0), (.mv, 1), (.nm, 2), (.mv, 3), (.mv, 4), (.mv, 5), (.nm, 6), (.nm, 7), (.mv, 8)] rfl ?_)
         refine gm rfl rfl rfl rfl ?_
         refine gr_rd rfl rfl rfl (rd_loadA Tryd.ta34 rfl (Cells.own (l := encId pj) (T := 34) (z := (0, 0)) (by simp [baseL])) (Seg.all _) (encId_length _)) ?_
         refine gr_nx rfl rfl rfl (nx_call Tryd.en15 rfl (get_cc _ _ (hR.view (b := b) (bo := bo) (bw := bw) (bt := bt) (Cells.own (l := [.map (some bo), .map (some bw), .map (some bt)]) (T := 83) (z := (0, 0)) (by simp )) (by simp) (by simp) (by simp)) hsm2 pj)) ?_; rintro v73 H' L' hle ⟨C8, u8, rfl, hO8, rfl, rfl⟩; refine ⟨trivial, ?_⟩
         rw [hgj, Option.getD_some] at hO8
         rw [hgj, hhj, Option.getD_some]
         refine gm rfl rfl rfl rfl ?_
         refine gr_rd rfl rfl rfl (rd_extract rfl rfl) ?_
         refine gr_rd rfl rfl rfl (rd_extract rfl rfl) ?_
         refine gr_nx rfl rfl rfl (nx_alloc Tryd.zeroValue38 rfl) ?_; rintro _ _ _ _ ⟨b16, rfl, rfl, rfl⟩; refine ⟨trivial, ?_⟩
         refine gr_nx0 rfl rfl (nx_store (vs := encOp oj u8) Tryd.sizeOf38 rfl rfl rfl (encOp_length _ _) upd (by simp) (encOp_ones _ hO8.one)) ?_; rintro _ _ _ _ ⟨rfl, rfl, rfl⟩; refine ⟨trivial, ?_⟩
         rw [wr_all (by simp)]
         refine ga rfl rfl rfl rfl ?_
         refine gr_nil (gk_then ?_)
         refine gc_seq ?_
         refine gc_seq (gc_seqr [(.mv, 0), (.mv, 1)] rfl ?_)
         refine gm rfl rfl rfl rfl ?_
         refine gr_rd rfl rfl rfl (rd_neq rfl rfl) ?_
         refine gr_nil (gk_then ?_)
         refine gc_no rfl ?_
         refine gc_skip ?_
         refine gk_then ?_
         refine gc_seqr [(.mv, 0), (.mv, 1), (.mv, 2), (.mv, 3), (.mv, 4)] rfl ?_
         refine gm rfl rfl rfl rfl ?_
         refine gr_rd rfl rfl rfl (rd_fieldAddr Tryd.fa38_2 rfl) ?_
         refine gr_rd rfl rfl rfl (rd_load1 Tryd.to3 rfl (Cells.own (l := encOp oj u8) (T := 38) (z := (0, 0)) (by simp [baseL])) (encOp_36 _ _)) ?_
         refine gr_rd rfl rfl rfl (rd_max2 rfl rfl rfl) ?_
         rw [imax_eq, ← hstep oj hgj]
         refine ga rfl rfl rfl rfl ?_
         refine gr_nil ?_
         refine gk_inBlock ?_
         refine gk_then ?_
         refine gc_seqr [(.mv, 0), (.mv, 1)] rfl ?_
         (first | refine gr_rd rfl rfl rfl (rd_add rfl rfl (IntWalk.i64_in _ (by omega))) ?_ | refine gr_rd rfl rfl rfl (rd_add rfl rfl rfl) ?_)
         refine gm rfl rfl rfl rfl ?_
         refine gr_nil ?_
         refine gk_drop (L' := ((b, .cells [.map (some bo), .map (some bw), .map (some bt)].toArray 83 (0, 0)) :: (bo, ob) :: (bw, ow) :: (bt, ot) :: ((b11, .cells (encOp oq (.slice a7 oq.preds.length c7)).toArray 38 (0, 0)) :: (C7 ++ ((b10, .cells (encId nk).toArray 34 (0, 0)) :: (Cn ++ L)))))) sba ?_
         refine gk_round (j + 1) ?_ ⟨rfl, rfl, by omega⟩ sbs
         show oq.preds.length - (j + 1) < oq.preds.length - j
         omega
        ·have hje : j = oq.preds.length := by simp at hcR18; omega
         subst hje
         rw [List.take_length]
         refine gc_exit ?_
         refine gk_exit_then ?_
         refine gk_exit_then ?_
         refine gk_here ?_
         refine gk_then ?_
         refine gc_seq ?_
         refine gc_draw Tryd.mixed [(.mv, 0), (.mv, 1), (.mv, 2), (.mv, 3), (.mv, 4), (.mv, 5), (.mv, 6), (.mv, 7), (.mv, 8), (.mv, 9), (.mv, 10), (.mv, 12), (.nm, 11), (.mv, 13), (.mv, 14), (.mv, 15), (.mv, 16), (.mv, 18), (.nm, 17), (.fin, 19), (.fin, 20)] (by decide +kernel) _ (List.Sublist.refl _) ?_
         refine gm rfl rfl rfl rfl ?_
         refine gr_rd rfl rfl rfl (rd_neq rfl rfl) ?_
         refine gm rfl rfl rfl rfl ?_
         refine gr_rd rfl rfl rfl (rd_fieldAddr Tryd.fa38_2 rfl) ?_
         refine gr_rd rfl rfl rfl (rd_load1 Tryd.to3 rfl (Cells.own (l := encOp oq (.slice a7 oq.preds.length c7)) (T := 38) (z := (0, 0)) (by simp [baseL])) (encOp_36 _ _)) ?_
         refine gm rfl rfl rfl rfl ?_
         refine gr_rd rfl rfl rfl (rd_add rfl rfl (show IntKind.i64.wrap (deepest s oq.preds + 1) = wrap (deepest s oq.preds + 1) from IntKind.wrap_i64 _)) ?_
         refine gr_rd rfl rfl rfl (rd_neq rfl rfl) ?_
         rw [show (oq.depth != wrap (deepest s oq.preds + 1)) = false from by rw [hdep, depthOf]; exact bne_self_eq_false _]
         (first | refine gpt rfl rfl rfl rfl rfl ?_ | refine gpf rfl rfl rfl rfl rfl ?_)
         refine gm rfl rfl rfl rfl ?_
         refine gr_rd rfl rfl rfl (rd_loadA Tryd.ta38 rfl (Cells.own (l := encOp oq (.slice a7 oq.preds.length c7)) (T := 38) (z := (0, 0)) (by simp [baseL])) (Seg.all _) (encOp_length _ _)) ?_
         refine gr_rd rfl rfl rfl (rd_loadA Tryd.ta34 rfl (Cells.own (l := encId nk) (T := 34) (z := (0, 0)) (by simp [baseL])) (Seg.all _) (encId_length _)) ?_
         refine gr_nx rfl rfl rfl (nx_call Tryd.en16 rfl (rname_cc _ _ oq _ (Ow.slT encId_length hO7 rfl (by omega) (by intro x hx; simp [hx])) hfit.small)) ?_; rintro v94 H' L' hle ⟨rfl, rfl, rfl⟩; refine ⟨kp, ?_⟩
         rw [hname]
         refine gr_rd rfl rfl rfl (rd_arrNe Tryd.tb34 (by first | exact Nm.len _ | assumption | simp) (by first | exact Nm.len _ | assumption | simp) rfl rfl) ?_
         rw [bne_self_eq_false]
         (first | refine gpt rfl rfl rfl rfl rfl ?_ | refine gpf rfl rfl rfl rfl rfl ?_)
         refine gm rfl rfl rfl rfl ?_
         refine gm rfl rfl rfl rfl ?_
         refine gr_rd rfl rfl rfl (rd_loadA Tryd.ta34 rfl (Cells.own (l := encId nk) (T := 34) (z := (0, 0)) (by simp [baseL])) (Seg.all _) (encId_length _)) ?_
         refine gr_nx rfl rfl rfl (nx_call Tryd.en18 rfl (waits_cc _ _ hR (by omega))) ?_; rintro v100 H' L' hle ⟨C9, hO9, rfl, rfl⟩; refine ⟨kp, ?_⟩
         refine gr_fin rfl rfl rfl (nx_call Tryd.en17 rfl (in_cc _ _ _ (waits s) nk (Ow.slT encId_length hO9 rfl (by omega) (by intro x hx; simp [hx])))) ?_; rintro v102 H' L' hle ⟨rfl, rfl, rfl⟩
         rw [show (waits s).contains nk = false from by simpa using hnw]
         (first | (refine gr_fin rfl rfl rfl (Rd.nx (rd_pick_t rfl rfl)) ?_; rintro _ _ _ _ ⟨rfl, rfl, rfl⟩) | (refine gr_fin rfl rfl rfl (Rd.nx (rd_pick_f rfl rfl)) ?_; rintro _ _ _ _ ⟨rfl, rfl, rfl⟩))
         refine gr_nil (gk_then ?_)
         refine gc_no rfl ?_
         refine gc_skip ?_
         refine gk_inBlock ?_
         refine gk_then ?_
         refine gc_seqr [(.mv, 0), (.mv, 1)] rfl ?_
         (first | refine gr_rd rfl rfl rfl (rd_add rfl rfl (IntWalk.i64_in _ (by omega))) ?_ | refine gr_rd rfl rfl rfl (rd_add rfl rfl rfl) ?_)
         refine gm rfl rfl rfl rfl ?_
         refine gr_nil ?_
         refine gk_perm (L' := (C9 ++ ((b11, .cells (encOp oq (.slice a7 oq.preds.length c7)).toArray 38 (0, 0)) :: (C7 ++ [(b10, .cells (encId nk).toArray 34 (0, 0))]))) ++ (Cn ++ ((b, .cells [.map (some bo), .map (some bw), .map (some bt)].toArray 83 (0, 0)) :: (bo, ob) :: (bw, ow) :: (bt, ot) :: L))) (by haveI : DecidableEq (Nat × Obj) := fun _ _ => Classical.propDecidable _; rw [List.perm_iff_count]; intro a; simp only [List.count_append, List.count_cons, List.count_nil]; ac_rfl) ?_
         refine gk_drop (L' := (Cn ++ ((b, .cells [.map (some bo), .map (some bw), .map (some bt)].toArray 83 (0, 0)) :: (bo, ob) :: (bw, ow) :: (bt, ot) :: L))) (List.sublist_append_right _ _) ?_
         refine gk_round (k2 + 1) ?_ ⟨rfl, rfl, by omega⟩ sbs
         show (names s).length - (k2 + 1) < (names s).length - k2
         omega
      ·skip
       refine gc_exit ?_
       refine gk_exit_then ?_
       refine gk_exit_then ?_
       refine gk_here ?_
       refine gk_then ?_
       refine gc_seq (gc_seqr [(.mv, 0)] rfl ?_)
       refine ga rfl rfl rfl rfl ?_
       refine gr_nil (gk_then ?_)
       refine gc_ret ?_
       refine gk_drop (L' := L) sba ?_
       refine gk_result (L' := L) (.inl rfl) _ (res1 rfl rfl) (List.Sublist.refl _) gle ?_
       exact ⟨rfl, rfl⟩
end Go.Proofs.YtfhldfjknagidaaDoor

/-
  The row of a set's operations (plain): by depth, then by name.
-/
set_option linter.unusedSimpArgs false
set_option linter.unusedVariables false
set_option linter.unnecessarySimpa false
set_option linter.all false
namespace Go.Tr
open Go.Sort Go.Proofs
def depthAt (s : DSet) (n : Nm) : Int := (Tr.get s.ops n).elim 0 (·.depth)
def cmpD (f : Nm → Int) (x y : Nm) : Int := if f x ≠ f y then f x - f y else cmp x y
theorem ltD_iff {f : Nm → Int} {x y : Nm} : ltOf (cmpD f) x y = true ↔ f x < f y ∨ (f x = f y ∧ ltN x y = true) := by
  have e : ltOf (cmpD f) x y = decide (cmpD f x y < 0) := rfl
  have e2 : ltN x y = decide (cmp x y < 0) := rfl
  rw [e, e2, decide_eq_true_iff, decide_eq_true_iff]
  unfold cmpD
  by_cases h : f x = f y
  · rw [if_neg (by simpa using h)]
    exact ⟨fun h2 => .inr ⟨h, h2⟩, fun h2 => by
      rcases h2 with h2 | ⟨_, h2⟩
      · omega
      · exact h2⟩
  · rw [if_pos h]
    exact ⟨fun h2 => .inl (by omega), fun h2 => by
      rcases h2 with h2 | ⟨h2, _⟩
      · omega
      · exact absurd h2 h⟩
theorem ltD_false {f : Nm → Int} {x y : Nm} : ltOf (cmpD f) x y = false ↔ f y < f x ∨ (f x = f y ∧ ltN x y = false) := by
  have h := ltD_iff (f := f) (x := x) (y := y)
  cases hl : ltOf (cmpD f) x y with
  | true =>
    rcases h.1 hl with h1 | ⟨h1, h2⟩
    · simp; constructor
      · omega
      · intro h3; omega
    · simp [h1, h2]
  | false =>
    simp only [true_iff]
    rw [hl] at h
    have h0 : ¬ (f x < f y ∨ (f x = f y ∧ ltN x y = true)) := fun h1 => by have := h.2 h1; cases this
    rw [not_or, not_and] at h0
    by_cases he : f x = f y
    · exact .inr ⟨he, by simpa using h0.2 he⟩
    · exact .inl (by omega)
theorem swo_cmpD (f : Nm → Int) : SWO (ltOf (cmpD f)) where
  irrefl x := ltD_false.2 (.inr ⟨rfl, ltN_irrefl x⟩)
  trans x y z h1 h2 := by
    rw [ltD_iff] at h1 h2 ⊢
    rcases h1 with h1 | ⟨h1, h1'⟩ <;> rcases h2 with h2 | ⟨h2, h2'⟩
    · exact .inl (by omega)
    · exact .inl (by omega)
    · exact .inl (by omega)
    · exact .inr ⟨by omega, ltN_trans h1' h2'⟩
  ntrans x y z h1 h2 := by
    rw [ltD_false] at h1 h2 ⊢
    rcases h1 with h1 | ⟨h1, h1'⟩ <;> rcases h2 with h2 | ⟨h2, h2'⟩
    · exact .inl (by omega)
    · exact .inl (by omega)
    · exact .inl (by omega)
    · exact .inr ⟨by omega, ltN_ntrans h1' h2'⟩
theorem anti_cmpD (f : Nm → Int) {x y : Nm} (h1 : ltOf (cmpD f) x y = false) (h2 : ltOf (cmpD f) y x = false) : x = y := by
  rw [ltD_false] at h1 h2
  rcases h1 with h1 | ⟨h1, h1'⟩ <;> rcases h2 with h2 | ⟨h2, h2'⟩
  · omega
  · omega
  · omega
  · exact ltN_anti h1' h2'
/-- Names in their row. -/
def inRow (f : Nm → Int) (l : List Nm) : List Nm := l.mergeSort fun x y => !(ltOf (cmpD f)) y x
def order (s : DSet) : List Nm := inRow (depthAt s) (names s)
def opAt (s : DSet) (n : Nm) : POp := (Tr.get s.ops n).getD zeroOp
def row (s : DSet) : List POp := (order s).map (opAt s)
theorem inRow_perm (f : Nm → Int) (l : List Nm) : (inRow f l).Perm l := List.mergeSort_perm _ _
theorem inRow_sorted (f : Nm → Int) (l : List Nm) : (inRow f l).Pairwise fun x y => ltOf (cmpD f) y x = false := by
  have h := List.pairwise_mergeSort (le := fun x y => !(ltOf (cmpD f)) y x)
    (fun a b c h1 h2 => by
      simp only [Bool.not_eq_true'] at h1 h2 ⊢
      exact (swo_cmpD f).ntrans _ _ _ h2 h1)
    (fun a b => by
      simp only [Bool.or_eq_true, Bool.not_eq_true']
      cases h1 : ltOf (cmpD f) b a with
      | false => exact .inl rfl
      | true =>
        cases h2 : ltOf (cmpD f) a b with
        | false => exact .inr rfl
        | true =>
          have h3 := (swo_cmpD f).trans _ _ _ h1 h2
          rw [(swo_cmpD f).irrefl] at h3; cases h3) l
  exact h.imp fun h => by simpa using h
end Go.Tr

/-
  Walks: the row of a set's operations.
-/
set_option linter.unusedSimpArgs false
set_option linter.unusedVariables false
set_option linter.unnecessarySimpa false
set_option linter.all false
namespace Go.Proofs.YtfhldfjknagidaaDoor
open Go.VK Go.Tr
set_option maxRecDepth 20000
attribute [local irreducible] Go.Tr.sha
theorem order_length (s : DSet) : (order s).length = s.ops.length := by rw [order, (inRow_perm _ _).length_eq, names_length]
theorem depth_range {s : DSet} (hC : Closed FitO s) (n : Nm) : 0 ≤ depthAt s n ∧ depthAt s n < 9223372036854775808 := by
  unfold depthAt
  cases hg : Tr.get s.ops n with
  | none => exact ⟨by decide, by decide⟩
  | some o =>
    obtain ⟨_, hgd, hf, _⟩ := hC.get hg
    simp only [good, Bool.and_eq_true, decide_eq_true_eq] at hgd
    refine ⟨?_, hf.rng.depth⟩
    have h1 := hgd.1.1.2
    split at h1
    · have : o.depth = 1 := by simpa using h1
      show 0 ≤ o.depth; omega
    · have : 2 ≤ o.depth := by simpa using h1
      show 0 ≤ o.depth; omega
theorem opAt_depth (s : DSet) (n : Nm) : (opAt s n).depth = depthAt s n := by
  unfold opAt depthAt
  cases Tr.get s.ops n <;> rfl
theorem depthAt_none {s : DSet} {n : Nm} (h : n ∉ names s) : depthAt s n = 0 := by
  unfold depthAt
  cases hg : Tr.get s.ops n with
  | none => rfl
  | some o => exact absurd (names_has.2 (by rw [← get_isSome, hg]; rfl)) h
structure OS where
  k : Nat
  od : Obj
  m : List (Nm × Value)

theorem order1_cc (H : Gh) (L : Chunks) {b3 bd : Nat} {od : Obj} {m : List (Nm × Value)} (hM : MapO od m) {f : Nm → Int} (hf : ∀ n, (VK.look m n).getD (i64 0) = i64 (f n)) (hr : ∀ n, 0 ≤ f n ∧ f n < 9223372036854775808) (x y : Nm) :
    CC Tryd.prog 71 #[ag (encId x), ag (encId y), pt b3 0] H ((b3, .cells [.map (some bd)].toArray 81 (0, 0)) :: (bd, od) :: L) (fun u H' L' => u = i64 (cmpD f x y) ∧ H = H' ∧ ((b3, .cells [.map (some bd)].toArray 81 (0, 0)) :: (bd, od) :: L) = L') := by
 have hx := hr x
 have hy := hr y
 refine cc_of Tryd.func71 rfl (Nat.le_of_ble_eq_true rfl) ?_
 simp only [Tryd.ntmps71]
 refine gc_seq (gc_seqr [(.nm, 0), (.nm, 1), (.mv, 2)] rfl ?_)
 refine gr_nx rfl rfl rfl (nx_box (l := encId x) rfl rfl) ?_; rintro _ _ _ _ ⟨b7, rfl, rfl, rfl⟩; refine ⟨trivial, ?_⟩
 refine gr_nx rfl rfl rfl (nx_box (l := encId y) rfl rfl) ?_; rintro _ _ _ _ ⟨b8, rfl, rfl, rfl⟩; refine ⟨trivial, ?_⟩
 refine ga rfl rfl rfl rfl ?_
 refine gr_nil (gk_then ?_)
 refine gc_seq ?_
 refine gc_seq ?_
 refine gc_draw Tryd.mixed [(.mv, 0), (.mv, 1), (.mv, 2), (.mv, 3), (.mv, 4), (.mv, 5), (.mv, 6)] (by decide +kernel) _ (List.Sublist.refl _) ?_
 refine gr_rd rfl rfl rfl (rd_load1 Tryd.to81 rfl (Cells.own (l := [.map (some bd)]) (T := 81) (z := (0, 0)) (by simp [baseL])) rfl) ?_
 refine gr_rd rfl rfl rfl (rd_loadA Tryd.ta34 rfl (Cells.own (l := encId x) (T := 34) (z := (0, 0)) (by simp [baseL])) (Seg.all _) (encId_length _)) ?_
 refine gr_rd rfl rfl rfl (rd_lookup Tryd.tmi Tryd.zint rfl rfl (by simp [baseL]) hM) ?_
 rw [hf x]
 refine gr_rd rfl rfl rfl (rd_load1 Tryd.to81 rfl (Cells.own (l := [.map (some bd)]) (T := 81) (z := (0, 0)) (by simp [baseL])) rfl) ?_
 refine gr_rd rfl rfl rfl (rd_loadA Tryd.ta34 rfl (Cells.own (l := encId y) (T := 34) (z := (0, 0)) (by simp [baseL])) (Seg.all _) (encId_length _)) ?_
 refine gr_rd rfl rfl rfl (rd_lookup Tryd.tmi Tryd.zint rfl rfl (by simp [baseL]) hM) ?_
 rw [hf y]
 refine gr_rd rfl rfl rfl (rd_neq rfl rfl) ?_
 refine gr_nil (gk_then ?_)
 refine gc_cond rfl (fun hcR1 => ?_) (fun hcR1 => ?_)
 ·have hne : f x ≠ f y := by simpa using hcR1
  refine gc_seq ?_
  refine gc_draw Tryd.mixed [(.mv, 0), (.mv, 1), (.mv, 2), (.mv, 3), (.mv, 4), (.mv, 5), (.mv, 6), (.mv, 7)] (by decide +kernel) _ (List.Sublist.refl _) ?_
  refine gr_rd rfl rfl rfl (rd_load1 Tryd.to81 rfl (Cells.own (l := [.map (some bd)]) (T := 81) (z := (0, 0)) (by simp [baseL])) rfl) ?_
  refine gr_rd rfl rfl rfl (rd_loadA Tryd.ta34 rfl (Cells.own (l := encId x) (T := 34) (z := (0, 0)) (by simp [baseL])) (Seg.all _) (encId_length _)) ?_
  refine gr_rd rfl rfl rfl (rd_lookup Tryd.tmi Tryd.zint rfl rfl (by simp [baseL]) hM) ?_
  rw [hf x]
  refine gr_rd rfl rfl rfl (rd_load1 Tryd.to81 rfl (Cells.own (l := [.map (some bd)]) (T := 81) (z := (0, 0)) (by simp [baseL])) rfl) ?_
  refine gr_rd rfl rfl rfl (rd_loadA Tryd.ta34 rfl (Cells.own (l := encId y) (T := 34) (z := (0, 0)) (by simp [baseL])) (Seg.all _) (encId_length _)) ?_
  refine gr_rd rfl rfl rfl (rd_lookup Tryd.tmi Tryd.zint rfl rfl (by simp [baseL]) hM) ?_
  rw [hf y]
  (first | refine gr_rd rfl rfl rfl (rd_sub rfl rfl (IntWalk.i64_in _ (by omega))) ?_ | refine gr_rd rfl rfl rfl (rd_sub rfl rfl rfl) ?_)
  refine ga rfl rfl rfl rfl ?_
  refine gr_nil (gk_then ?_)
  refine gc_ret ?_
  refine gk_ret_then ?_
  refine gk_drop (L' := ((b3, .cells [.map (some bd)].toArray 81 (0, 0)) :: (bd, od) :: L)) sba ?_
  refine gk_result (L' := ((b3, .cells [.map (some bd)].toArray 81 (0, 0)) :: (bd, od) :: L)) (.inl rfl) _ (res1 rfl rfl) (List.Sublist.refl _) (Gh.le_refl _) ?_
  exact ⟨by rw [cmpD, if_pos hne], rfl, rfl⟩
 ·have heq : f x = f y := by simpa using hcR1
  refine gc_skip ?_
  refine gk_then ?_
  refine gc_seq (gc_seqr [(.mv, 0), (.mv, 1), (.nm, 2), (.mv, 3)] rfl ?_)
  refine gr_rd rfl rfl rfl (rd_loadA Tryd.ta34 rfl (Cells.own (l := encId x) (T := 34) (z := (0, 0)) (by simp [baseL])) (Seg.all _) (encId_length _)) ?_
  refine gr_rd rfl rfl rfl (rd_loadA Tryd.ta34 rfl (Cells.own (l := encId y) (T := 34) (z := (0, 0)) (by simp [baseL])) (Seg.all _) (encId_length _)) ?_
  refine gr_nx rfl rfl rfl (nx_call Tryd.en50 rfl (cmp_cc _ _ x y)) ?_; rintro v22 H' L' hle ⟨rfl, rfl, rfl⟩; refine ⟨trivial, ?_⟩
  refine ga rfl rfl rfl rfl ?_
  refine gr_nil (gk_then ?_)
  refine gc_ret ?_
  refine gk_drop (L' := ((b3, .cells [.map (some bd)].toArray 81 (0, 0)) :: (bd, od) :: L)) sba ?_
  refine gk_result (L' := ((b3, .cells [.map (some bd)].toArray 81 (0, 0)) :: (bd, od) :: L)) (.inl rfl) _ (res1 rfl rfl) (List.Sublist.refl _) (Gh.le_refl _) ?_
  exact ⟨by rw [cmpD, if_neg (by simpa using heq)], rfl, rfl⟩
set_option maxHeartbeats 1000000 in
theorem order_cc (H : Gh) (L : Chunks) {b bo bw bt : Nat} {s : DSet} {ob ow ot : Obj} (hR : DRep H s ob ow ot) (hC : Closed FitO s) (hz : s.ops.length < 16777216) :
    CC Tryd.prog 38 #[pt b 0] H ((b, .cells [.map (some bo), .map (some bw), .map (some bt)].toArray 83 (0, 0)) :: (bo, ob) :: (bw, ow) :: (bt, ot) :: L) (fun u H' L' => ∃ C, Ow 34 32 C u (order s).length ((order s).flatMap encId) ∧ H = H' ∧ C ++ ((b, .cells [.map (some bo), .map (some bw), .map (some bt)].toArray 83 (0, 0)) :: (bo, ob) :: (bw, ow) :: (bt, ot) :: L) = L') := by
 have hnl := names_length s
 have hsm : ∀ p ∈ s.ops, p.2.preds.length ≤ 32 := fun p hp => hR.small p (List.mem_append_left _ hp)
 refine cc_of Tryd.func38 rfl (Nat.le_of_ble_eq_true rfl) ?_
 simp only [Tryd.ntmps38]
 refine gc_seq (gc_seqr [(.mv, 0)] rfl ?_)
 refine ga rfl rfl rfl rfl ?_
 refine gr_nil (gk_then ?_)
 refine gc_seq (gc_seqr [(.nm, 0), (.nm, 1), (.nm, 2)] rfl ?_)
 refine gr_nx rfl rfl rfl nx_makeMap ?_; rintro _ _ _ _ ⟨bd, rfl, rfl, rfl⟩; refine ⟨trivial, ?_⟩
 refine gr_nx rfl rfl rfl (nx_alloc Tryd.zeroValue81 rfl) ?_; rintro _ _ _ _ ⟨b3, rfl, rfl, rfl⟩; refine ⟨trivial, ?_⟩
 refine gr_nx0 rfl rfl (nx_store (vs := [.map (some bd)]) Tryd.sizeOf81 rfl rfl rfl (rfl) upd (by simp) (oneCells_of_all rfl)) ?_; rintro _ _ _ _ ⟨rfl, rfl, rfl⟩; refine ⟨trivial, ?_⟩
 refine gr_nil (gk_then ?_)
 refine gc_seq (gc_seqr [(.mv, 0), (.nm, 1), (.mv, 2)] rfl ?_)
 refine gr_perm (L' := ((b, .cells [.map (some bo), .map (some bw), .map (some bt)].toArray 83 (0, 0)) :: (bo, ob) :: (bw, ow) :: (bt, ot) :: ((b3, Obj.cells [Value.map (some bd)].toArray 81 (0, 0)) :: (bd, .map #[] 0) :: L))) (by haveI : DecidableEq (Nat × Obj) := fun _ _ => Classical.propDecidable _; rw [List.perm_iff_count]; intro a; simp only [List.count_append, List.count_cons, List.count_nil]; ac_rfl) ?_
 refine gm rfl rfl rfl rfl ?_
 refine gr_nx rfl rfl rfl (nx_call Tryd.en14 rfl (names_cc _ _ hR hz)) ?_; rintro v11 H' L' hle ⟨Cn, hOn, rfl, rfl⟩; refine ⟨trivial, ?_⟩
 obtain ⟨An, cn, rfl, hcn⟩ := hOn.slice
 refine gr_perm (L' := ((b3, Obj.cells [Value.map (some bd)].toArray 81 (0, 0)) :: (bd, .map #[] 0) :: (Cn ++ ((b, .cells [.map (some bo), .map (some bw), .map (some bt)].toArray 83 (0, 0)) :: (bo, ob) :: (bw, ow) :: (bt, ot) :: L)))) (by haveI : DecidableEq (Nat × Obj) := fun _ _ => Classical.propDecidable _; rw [List.perm_iff_count]; intro a; simp only [List.count_append, List.count_cons, List.count_nil]; ac_rfl) ?_
 refine ga rfl rfl rfl rfl ?_
 refine gr_nil (gk_then ?_)
 refine gc_seq ?_
 refine gc_seq (gc_seqr [(.mv, 0), (.mv, 1), (.mv, 2)] rfl ?_)
 refine gm rfl rfl rfl rfl ?_
 refine gr_rd rfl rfl rfl (rd_lenS Tryd.underlying29 rfl) ?_
 refine gm rfl rfl rfl rfl ?_
 refine gr_nil (gk_then ?_)
 refine gc_block ?_
 refine gc_loop (fun t : OS => [(0, pt b 0), (3, pt b3 0), (4, .slice An (names s).length cn), (12, .slice An (names s).length cn), (13, i64 (names s).length), (14, i64 t.k)]) (fun t H1 L1 => H = H1 ∧ ((b3, Obj.cells [Value.map (some bd)].toArray 81 (0, 0)) :: (bd, t.od) :: (Cn ++ ((b, .cells [.map (some bo), .map (some bw), .map (some bt)].toArray 83 (0, 0)) :: (bo, ob) :: (bw, ow) :: (bt, ot) :: L))) = L1 ∧ MapO t.od t.m ∧ t.k ≤ (names s).length ∧ ∀ n, (VK.look t.m n).getD (i64 0) = i64 (if n ∈ (names s).take t.k then depthAt s n else 0)) (fun t => (names s).length - t.k) (⟨0, .map #[] 0, []⟩) ?_ sbs ?_
 ·exact ⟨rfl, rfl, ⟨[], 0, rfl, rfl, List.Pairwise.nil, (fun p hp => by cases hp), List.nodup_nil⟩, Nat.zero_le _, fun n => by simp [VK.look]⟩
 ·rintro ⟨k, od, m⟩ H1 L1 ⟨rfl, rfl, hM, hk, hf⟩
  simp only at hM hk hf
  show GC _ _ _ _ [(0, pt b 0), (3, pt b3 0), (4, .slice An (names s).length cn), (12, .slice An (names s).length cn), (13, i64 (names s).length), (14, i64 k)] H ((b3, Obj.cells [Value.map (some bd)].toArray 81 (0, 0)) :: (bd, od) :: (Cn ++ ((b, .cells [.map (some bo), .map (some bw), .map (some bt)].toArray 83 (0, 0)) :: (bo, ob) :: (bw, ow) :: (bt, ot) :: L)))
  refine gc_seq (gc_seqr [(.mv, 0)] rfl ?_)
  refine gr_rd rfl rfl rfl (rd_lss rfl rfl) ?_
  refine gr_nil (gk_then ?_)
  refine gc_seq ?_
  refine gc_cond rfl (fun hcR4 => ?_) (fun hcR4 => ?_)
  ·have hlt : k < (names s).length := by simpa using hcR4
   obtain ⟨_, bn, on, cn2, ln, hne, hcn2, hnn, hn0, hn1, hn2⟩ := (Ow.slT (H := H) (L := ((b3, Obj.cells [Value.map (some bd)].toArray 81 (0, 0)) :: (bd, od) :: (Cn ++ ((b, .cells [.map (some bo), .map (some bw), .map (some bt)].toArray 83 (0, 0)) :: (bo, ob) :: (bw, ow) :: (bt, ot) :: L)))) (xs := names s) encId_length hOn rfl (by omega) (by intro x hx; simp [hx]))
   cases hne
   obtain ⟨hAe, hca, hsa⟩ := ids_at2 (i := (k : Int)) hn1 hn2 hlt rfl
   obtain ⟨nk, hnk⟩ : ∃ nk, ((names s).getD k Nm.zero) = nk := ⟨_, rfl⟩
   rw [hnk] at hsa
   refine gc_skip ?_
   refine gk_then ?_
   refine gc_seq ?_
   refine gc_block ?_
   refine gc_seq (gc_seqr [(.mv, 0), (.mv, 1), (.nm, 2), (.nm, 3)] rfl ?_)
   refine gr_rd rfl rfl rfl (rd_indexS Tryd.underlying29 Tryd.sizeOf34 rfl rfl hAe (by omega) (by omega)) ?_
   refine gr_rd rfl rfl rfl (rd_loadA Tryd.ta34 rfl hca hsa (encId_length _)) ?_
   refine gr_nx rfl rfl rfl (nx_alloc Tryd.zeroValue34 rfl) ?_; rintro _ _ _ _ ⟨b6, rfl, rfl, rfl⟩; refine ⟨trivial, ?_⟩
   refine gr_nx0 rfl rfl (nx_store (vs := encId nk) Tryd.sizeOf34 rfl rfl rfl (encId_length _) upd (by simp) (encId_ones _)) ?_; rintro _ _ _ _ ⟨rfl, rfl, rfl⟩; refine ⟨trivial, ?_⟩
   rw [wr_all (by simp)]
   refine gr_nil (gk_then ?_)
   refine gc_seq (gc_seqr [(.mv, 0), (.mv, 1), (.nm, 2), (.mv, 3), (.mv, 4), (.mv, 5), (.nm, 6), (.nm, 7), (.mv, 8)] rfl ?_)
   refine gm rfl rfl rfl rfl ?_
   refine gr_rd rfl rfl rfl (rd_loadA Tryd.ta34 rfl (Cells.own (l := encId nk) (T := 34) (z := (0, 0)) (by simp [baseL])) (Seg.all _) (encId_length _)) ?_
   refine gr_nx rfl rfl rfl (nx_call Tryd.en15 rfl (get_cc _ _ (hR.view (b := b) (bo := bo) (bw := bw) (bt := bt) (Cells.own (l := [.map (some bo), .map (some bw), .map (some bt)]) (T := 83) (z := (0, 0)) (by simp )) (by simp) (by simp) (by simp)) hsm nk)) ?_; rintro v21 H' L' hle ⟨C7, u7, rfl, hO7, rfl, rfl⟩; refine ⟨trivial, ?_⟩
   refine gm rfl rfl rfl rfl ?_
   refine gr_rd rfl rfl rfl (rd_extract rfl rfl) ?_
   refine gr_rd rfl rfl rfl (rd_extract rfl rfl) ?_
   refine gr_nx rfl rfl rfl (nx_alloc Tryd.zeroValue38 rfl) ?_; rintro _ _ _ _ ⟨b7, rfl, rfl, rfl⟩; refine ⟨trivial, ?_⟩
   refine gr_nx0 rfl rfl (nx_store (vs := encOp (opAt s nk) u7) Tryd.sizeOf38 rfl rfl rfl (encOp_length _ _) upd (by simp) (encOp_ones _ hO7.one)) ?_; rintro _ _ _ _ ⟨rfl, rfl, rfl⟩; refine ⟨trivial, ?_⟩
   rw [wr_all (by simp)]
   refine ga rfl rfl rfl rfl ?_
   refine gr_nil (gk_then ?_)
   refine gc_seqr [(.mv, 0), (.mv, 1), (.mv, 2), (.mv, 3), (.nm, 4)] rfl ?_
   refine gr_rd rfl rfl rfl (rd_load1 Tryd.to81 rfl (Cells.own (l := [.map (some bd)]) (T := 81) (z := (0, 0)) (by simp [baseL])) rfl) ?_
   refine gr_rd rfl rfl rfl (rd_loadA Tryd.ta34 rfl (Cells.own (l := encId nk) (T := 34) (z := (0, 0)) (by simp [baseL])) (Seg.all _) (encId_length _)) ?_
   refine gr_rd rfl rfl rfl (rd_fieldAddr Tryd.fa38_2 rfl) ?_
   refine gr_rd rfl rfl rfl (rd_load1 Tryd.to3 rfl (Cells.own (l := encOp (opAt s nk) u7) (T := 38) (z := (0, 0)) (by simp [baseL])) (encOp_36 _ _)) ?_
   refine gr_nx0 rfl rfl (nx_mapUpd (F := fun o1 => (b7, .cells (encOp (opAt s nk) u7).toArray 38 (0, 0)) :: (C7 ++ ((b6, .cells (encId nk).toArray 34 (0, 0)) :: ((b3, Obj.cells [Value.map (some bd)].toArray 81 (0, 0)) :: (bd, o1) :: (Cn ++ ((b, .cells [.map (some bo), .map (some bw), .map (some bt)].toArray 83 (0, 0)) :: (bo, ob) :: (bw, ow) :: (bt, ot) :: L)))))) Tryd.tmi rfl rfl rfl hM (fun _ => upd)) ?_; rintro _ H' L' hle ⟨od2, rfl, rfl, hM2, rfl⟩; refine ⟨trivial, ?_⟩
   refine gr_nil ?_
   refine gk_inBlock ?_
   refine gk_then ?_
   refine gc_seqr [(.mv, 0), (.mv, 1)] rfl ?_
   (first | refine gr_rd rfl rfl rfl (rd_add rfl rfl (IntWalk.i64_in _ (by omega))) ?_ | refine gr_rd rfl rfl rfl (rd_add rfl rfl rfl) ?_)
   refine gm rfl rfl rfl rfl ?_
   refine gr_nil ?_
   refine gk_drop (L' := ((b3, Obj.cells [Value.map (some bd)].toArray 81 (0, 0)) :: (bd, od2) :: (Cn ++ ((b, .cells [.map (some bo), .map (some bw), .map (some bt)].toArray 83 (0, 0)) :: (bo, ob) :: (bw, ow) :: (bt, ot) :: L)))) sba ?_
   refine gk_round ⟨k + 1, od2, storeM m nk (i64 (opAt s nk).depth)⟩ ?_ ⟨rfl, rfl, hM2, by simp only; omega, ?_⟩ sbs
   · show (names s).length - (k + 1) < (names s).length - k
     omega
   · intro n
     show (VK.look (storeM m nk (i64 (opAt s nk).depth)) n).getD (i64 0) = i64 (if n ∈ (names s).take (k + 1) then depthAt s n else 0)
     rw [look_storeM, List.take_add_one, getD_at hlt, hnk]
     by_cases hn : nk = n
     · subst hn
       rw [if_pos rfl]
       simp [opAt_depth]
     · rw [if_neg hn, hf n]
       have : ¬ n = nk := fun e => hn e.symm
       simp [this]
  ·have hge : k = (names s).length := by simp at hcR4; omega
   subst hge
   have hf2 : ∀ n, (VK.look m n).getD (i64 0) = i64 (depthAt s n) := fun n => by
     rw [hf n, List.take_length]
     split
     · rfl
     · rename_i hn; rw [depthAt_none hn]
   refine gc_exit ?_
   refine gk_exit_then ?_
   refine gk_exit_then ?_
   refine gk_here ?_
   refine gk_then ?_
   refine gc_seq (gc_seqr [(.mv, 0), (.mv, 1), (.nm, 2)] rfl ?_)
   refine gm rfl rfl rfl rfl ?_
   refine gr_rd rfl rfl rfl (rd_makeFunc1 rfl) ?_
   refine gr_perm (L' := (Cn ++ ((b3, Obj.cells [Value.map (some bd)].toArray 81 (0, 0)) :: (bd, od) :: ((b, .cells [.map (some bo), .map (some bw), .map (some bt)].toArray 83 (0, 0)) :: (bo, ob) :: (bw, ow) :: (bt, ot) :: L)))) (by haveI : DecidableEq (Nat × Obj) := fun _ _ => Classical.propDecidable _; rw [List.perm_iff_count]; intro a; simp only [List.count_append, List.count_cons, List.count_nil]; ac_rfl) ?_
   refine gr_nx rfl rfl rfl (nx_call Tryd.en70 rfl (sortFunc_gen H ((b3, Obj.cells [Value.map (some bd)].toArray 81 (0, 0)) :: (bd, od) :: ((b, .cells [.map (some bo), .map (some bw), .map (some bt)].toArray 83 (0, 0)) :: (bo, ob) :: (bw, ow) :: (bt, ot) :: L)) (cmpD (depthAt s)) (swo_cmpD _) (fun x y h1 h2 => anti_cmpD _ h1 h2) 71 #[pt b3 0] Tryd.en71 (fun W' C' hS x y => exact_of_cc (L := [(b3, Obj.cells [Value.map (some bd)].toArray 81 (0, 0)), (bd, od)]) (fun p hp => (hS.own p (List.mem_append_right _ (by simp only [List.mem_cons, List.not_mem_nil, or_false] at hp ⊢; rcases hp with rfl | rfl <;> simp))).1) (hS.nd.sublist ((List.Sublist.trans (List.Sublist.cons_cons _ (List.Sublist.cons_cons _ (List.nil_sublist _))) (List.sublist_append_right _ _)).map _)) (fun H2 => order1_cc (b3 := b3) (bd := bd) H2 [] hM hf2 (depth_range hC) x y)) hOn (by omega))) ?_; rintro v31 H' L' hle ⟨Cs, hOs, rfl, rfl, rfl⟩; refine ⟨trivial, ?_⟩
   refine gr_nil (gk_then ?_)
   refine gc_seq (gc_seqr [(.mv, 0), (.mv, 1)] rfl ?_)
   refine gm rfl rfl rfl rfl ?_
   refine ga rfl rfl rfl rfl ?_
   refine gr_nil (gk_then ?_)
   refine gc_ret ?_
   refine gk_drop (L' := Cs ++ ((b, .cells [.map (some bo), .map (some bw), .map (some bt)].toArray 83 (0, 0)) :: (bo, ob) :: (bw, ow) :: (bt, ot) :: L)) sbl ?_
   refine gk_result (L' := Cs ++ ((b, .cells [.map (some bo), .map (some bw), .map (some bt)].toArray 83 (0, 0)) :: (bo, ob) :: (bw, ow) :: (bt, ot) :: L)) (.inl rfl) _ (res1 rfl rfl) (List.Sublist.refl _) (Gh.le_refl _) ?_
   exact ⟨Cs, by rw [order_length, ← hnl]; exact hOs, rfl, rfl⟩
end Go.Proofs.YtfhldfjknagidaaDoor

/-
  Walks: the operations in their row; which of two stands ahead; two sets of what is made.
-/
set_option linter.unusedSimpArgs false
set_option linter.unusedVariables false
set_option linter.unnecessarySimpa false
set_option linter.all false
namespace Go.Proofs.YtfhldfjknagidaaDoor
open Go.VK Go.Tr
set_option maxRecDepth 20000
attribute [local irreducible] Go.Tr.sha
def beforeB (a b : POp) : Bool := decide (a.depth < b.depth) || ((a.depth == b.depth) && decide (cmp (nameOf a) (nameOf b) < 0))
theorem opAt_preds {s : DSet} (h : ∀ p ∈ s.ops, p.2.preds.length ≤ 32) (n : Nm) : (opAt s n).preds.length ≤ 32 := by
  unfold opAt
  cases hg : Tr.get s.ops n with
  | none => exact Nat.zero_le _
  | some q => exact h _ (get_mem hg)
structure RS where
  k : Nat
  ov : List (POp × Value)
  C : Chunks
  vo : Value
/-- Two sets, the program's and the reference's, behind k operations. -/
structure TB where
  k : Nat
  s : DSet
  ob : Obj
  ow : Obj
  ot : Obj
  v0 : Value
  v1 : Value
  v2 : Value
  v3 : Value
  ov : List (POp × Value)
  wv : List (POp × Value)
  C0 : Chunks
  C1 : Chunks
  C2 : Chunks
  C3 : Chunks

set_option maxHeartbeats 1000000 in
theorem row_cc (H : Gh) (L : Chunks) {b bo bw bt : Nat} {s : DSet} {ob ow ot : Obj} (hR : DRep H s ob ow ot) (hC : Closed FitO s) (hz : s.ops.length < 16777216) :
    CC Tryd.prog 39 #[pt b 0] H ((b, .cells [.map (some bo), .map (some bw), .map (some bt)].toArray 83 (0, 0)) :: (bo, ob) :: (bw, ow) :: (bt, ot) :: L) (fun u H' L' => ∃ (ov : List (POp × Value)) (C : Chunks), Ow 38 38 C u ov.length (ov.flatMap encOpV) ∧ ov.map (·.1) = row s ∧ (∀ p ∈ ov, Ids H' [] p.2 p.1.preds) ∧ C ++ ((b, .cells [.map (some bo), .map (some bw), .map (some bt)].toArray 83 (0, 0)) :: (bo, ob) :: (bw, ow) :: (bt, ot) :: L) = L') := by
 have hol := order_length s
 have hsm : ∀ p ∈ s.ops, p.2.preds.length ≤ 32 := fun p hp => hR.small p (List.mem_append_left _ hp)
 refine cc_of Tryd.func39 rfl (Nat.le_of_ble_eq_true rfl) ?_
 simp only [Tryd.ntmps39]
 refine gc_seq (gc_seqr [(.mv, 0)] rfl ?_)
 refine ga rfl rfl rfl rfl ?_
 refine gr_nil (gk_then ?_)
 refine gc_seq (gc_seqr [(.mv, 0)] rfl ?_)
 refine ga rfl rfl rfl rfl ?_
 refine gr_nil (gk_then ?_)
 refine gc_seq ?_
 refine gc_seq (gc_seqr [(.mv, 0), (.nm, 1), (.mv, 2), (.mv, 3)] rfl ?_)
 refine gm rfl rfl rfl rfl ?_
 refine gr_nx rfl rfl rfl (nx_call Tryd.en38 rfl (order_cc _ _ hR hC hz)) ?_; rintro v9 H' L' hle ⟨Cn, hOn, rfl, rfl⟩; refine ⟨trivial, ?_⟩
 obtain ⟨An, cn, rfl, hcn⟩ := hOn.slice
 refine gr_rd rfl rfl rfl (rd_lenS Tryd.underlying29 rfl) ?_
 refine gm rfl rfl rfl rfl ?_
 refine gr_nil (gk_then ?_)
 refine gc_block ?_
 refine gc_loop (fun t : RS => [(0, pt b 0), (3, t.vo), (9, .slice An (order s).length cn), (10, i64 (order s).length), (11, i64 t.k)]) (fun t H1 L1 => H ≤ H1 ∧ t.C ++ (Cn ++ ((b, .cells [.map (some bo), .map (some bw), .map (some bt)].toArray 83 (0, 0)) :: (bo, ob) :: (bw, ow) :: (bt, ot) :: L)) = L1 ∧ Ow 38 38 t.C t.vo t.ov.length (t.ov.flatMap encOpV) ∧ t.ov.map (·.1) = ((order s).take t.k).map (opAt s) ∧ (∀ p ∈ t.ov, Ids H1 [] p.2 p.1.preds) ∧ t.k ≤ (order s).length ∧ t.ov.length ≤ t.k) (fun t => (order s).length - t.k) (⟨0, [], [], nilS⟩) ?_ sbs ?_
 ·exact ⟨Gh.le_refl _, rfl, Ow.nil, rfl, (fun p hp => by cases hp), Nat.zero_le _, Nat.le_refl _⟩
 ·rintro ⟨k, ov, C, vo⟩ H1 L1 ⟨hH1, rfl, hO, hovm, hov, hk, hovl⟩
  simp only at hO hovm hov hk hovl
  replace hR := hR.up hH1
  show GC _ _ _ _ [(0, pt b 0), (3, vo), (9, .slice An (order s).length cn), (10, i64 (order s).length), (11, i64 k)] H1 (C ++ (Cn ++ ((b, .cells [.map (some bo), .map (some bw), .map (some bt)].toArray 83 (0, 0)) :: (bo, ob) :: (bw, ow) :: (bt, ot) :: L)))
  refine gc_seq (gc_seqr [(.mv, 0)] rfl ?_)
  refine gr_rd rfl rfl rfl (rd_lss rfl rfl) ?_
  refine gr_nil (gk_then ?_)
  refine gc_seq ?_
  refine gc_cond rfl (fun hcR3 => ?_) (fun hcR3 => ?_)
  ·have hlt : k < (order s).length := by simpa using hcR3
   obtain ⟨_, bn, on, cn2, ln, hne, hcn2, hnn, hn0, hn1, hn2⟩ := (Ow.slT (H := H1) (L := C ++ (Cn ++ ((b, .cells [.map (some bo), .map (some bw), .map (some bt)].toArray 83 (0, 0)) :: (bo, ob) :: (bw, ow) :: (bt, ot) :: L))) (xs := order s) encId_length hOn rfl (by omega) (by intro x hx; simp [hx]))
   cases hne
   obtain ⟨hAe, hca, hsa⟩ := ids_at2 (i := (k : Int)) hn1 hn2 hlt rfl
   obtain ⟨nk, hnk⟩ : ∃ nk, ((order s).getD k Nm.zero) = nk := ⟨_, rfl⟩
   rw [hnk] at hsa
   have hpl := opAt_preds hsm nk
   refine gc_skip ?_
   refine gk_then ?_
   refine gc_seq ?_
   refine gc_block ?_
   refine gc_seq (gc_seqr [(.mv, 0), (.mv, 1), (.nm, 2), (.nm, 3)] rfl ?_)
   refine gr_rd rfl rfl rfl (rd_indexS Tryd.underlying29 Tryd.sizeOf34 rfl rfl hAe (by omega) (by omega)) ?_
   refine gr_rd rfl rfl rfl (rd_loadA Tryd.ta34 rfl hca hsa (encId_length _)) ?_
   refine gr_nx rfl rfl rfl (nx_alloc Tryd.zeroValue34 rfl) ?_; rintro _ _ _ _ ⟨b5, rfl, rfl, rfl⟩; refine ⟨trivial, ?_⟩
   refine gr_nx0 rfl rfl (nx_store (vs := encId nk) Tryd.sizeOf34 rfl rfl rfl (encId_length _) upd (by simp) (encId_ones _)) ?_; rintro _ _ _ _ ⟨rfl, rfl, rfl⟩; refine ⟨trivial, ?_⟩
   rw [wr_all (by simp)]
   refine gr_nil (gk_then ?_)
   refine gc_seq (gc_seqr [(.mv, 0), (.mv, 1), (.nm, 2), (.mv, 3), (.mv, 4), (.mv, 5), (.nm, 6), (.nm, 7), (.mv, 8)] rfl ?_)
   refine gm rfl rfl rfl rfl ?_
   refine gr_rd rfl rfl rfl (rd_loadA Tryd.ta34 rfl (Cells.own (l := encId nk) (T := 34) (z := (0, 0)) (by simp [baseL])) (Seg.all _) (encId_length _)) ?_
   refine gr_nx rfl rfl rfl (nx_call Tryd.en15 rfl (get_cc _ _ (hR.view (b := b) (bo := bo) (bw := bw) (bt := bt) (Cells.own (l := [.map (some bo), .map (some bw), .map (some bt)]) (T := 83) (z := (0, 0)) (by simp )) (by simp) (by simp) (by simp)) hsm nk)) ?_; rintro v18 H' L' hle ⟨C7, u7, rfl, hO7, rfl, rfl⟩; refine ⟨trivial, ?_⟩
   refine gr_sealOw (xs := (opAt s nk).preds) encId_length hO7 rfl (Nat.lt_of_le_of_lt hpl (by decide)) (fun H2 hle7 hs7 => ?_)
   replace hov : ∀ p ∈ ov, Ids H2 [] p.2 p.1.preds := fun p hp => (hov p hp).up hle7
   refine gm rfl rfl rfl rfl ?_
   refine gr_rd rfl rfl rfl (rd_extract rfl rfl) ?_
   refine gr_rd rfl rfl rfl (rd_extract rfl rfl) ?_
   refine gr_nx rfl rfl rfl (nx_alloc Tryd.zeroValue38 rfl) ?_; rintro _ _ _ _ ⟨b6, rfl, rfl, rfl⟩; refine ⟨trivial, ?_⟩
   refine gr_nx0 rfl rfl (nx_store (vs := encOp (opAt s nk) u7) Tryd.sizeOf38 rfl rfl rfl (encOp_length _ _) upd (by simp) (encOp_ones _ hs7.one)) ?_; rintro _ _ _ _ ⟨rfl, rfl, rfl⟩; refine ⟨trivial, ?_⟩
   rw [wr_all (by simp)]
   refine ga rfl rfl rfl rfl ?_
   refine gr_nil (gk_then ?_)
   refine gc_seqr [(.mv, 0), (.mv, 1), (.nm, 2), (.nm, 3), (.mv, 4)] rfl ?_
   refine gm rfl rfl rfl rfl ?_
   refine gr_rd rfl rfl rfl (rd_loadA Tryd.ta38 rfl (Cells.own (l := encOp (opAt s nk) u7) (T := 38) (z := (0, 0)) (by simp [baseL])) (Seg.all _) (encOp_length _ _)) ?_
   refine gr_nx rfl rfl rfl (nx_sliceA1 Tryd.underlying25 Tryd.sizeOf38 Tryd.zeroValue38 rfl rfl rfl lnk rfl) ?_; rintro _ _ _ _ ⟨b23, rfl, rfl, rfl⟩; refine ⟨trivial, ?_⟩
   refine gr_nx rfl rfl rfl (nx_append (m := 1) Tryd.app25_25 rfl rfl hO pik (src_slice (b := b23) (o := 0) (l := encOp (opAt s nk) u7) (m := 1) (by simp) (encOp_ones _ hs7.one) (fun h => by cases h) (fun _ _ => ⟨rfl, Cells.own List.mem_cons_self, Seg.all _⟩)) (by omega) (by omega)) ?_; rintro v24 H' L' hle ⟨C2, hO2, _, rfl, rfl⟩; refine ⟨trivial, ?_⟩
   refine ga rfl rfl rfl rfl ?_
   refine gr_nil ?_
   refine gk_inBlock ?_
   refine gk_then ?_
   refine gc_seqr [(.mv, 0), (.mv, 1)] rfl ?_
   (first | refine gr_rd rfl rfl rfl (rd_add rfl rfl (IntWalk.i64_in _ (by omega))) ?_ | refine gr_rd rfl rfl rfl (rd_add rfl rfl rfl) ?_)
   refine gm rfl rfl rfl rfl ?_
   refine gr_nil ?_
   refine gk_drop (L' := C2 ++ (Cn ++ ((b, .cells [.map (some bo), .map (some bw), .map (some bt)].toArray 83 (0, 0)) :: (bo, ob) :: (bw, ow) :: (bt, ot) :: L))) sbl ?_
   refine gk_round ⟨k + 1, ov ++ [(opAt s nk, u7)], C2, _⟩ ?_ ⟨by first | assumption | exact Gh.le_trans (by assumption) (by assumption), rfl, by simpa [encOpV] using hO2, ?_, ?_, by simp only; omega, by simp only [List.length_append, List.length_cons, List.length_nil]; omega⟩ sbs
   · show (order s).length - (k + 1) < (order s).length - k
     omega
   · simp only
     rw [List.map_append, hovm, List.take_add_one, getD_at hlt, hnk]; simp
   · intro p hp
     rcases List.mem_append.1 hp with hp | hp
     · exact hov p hp
     · rw [List.mem_singleton.1 hp]; exact hs7
  ·have hge : k = (order s).length := by simp at hcR3; omega
   subst hge
   rw [List.take_length] at hovm
   refine gc_exit ?_
   refine gk_exit_then ?_
   refine gk_exit_then ?_
   refine gk_here ?_
   refine gk_then ?_
   refine gc_seq (gc_seqr [(.mv, 0), (.mv, 1)] rfl ?_)
   refine gm rfl rfl rfl rfl ?_
   refine ga rfl rfl rfl rfl ?_
   refine gr_nil (gk_then ?_)
   refine gc_ret ?_
   refine gk_drop (L' := C ++ ((b, .cells [.map (some bo), .map (some bw), .map (some bt)].toArray 83 (0, 0)) :: (bo, ob) :: (bw, ow) :: (bt, ot) :: L)) sbl ?_
   refine gk_result (L' := C ++ ((b, .cells [.map (some bo), .map (some bw), .map (some bt)].toArray 83 (0, 0)) :: (bo, ob) :: (bw, ow) :: (bt, ot) :: L)) (.inl rfl) _ (res1 rfl rfl) (List.Sublist.refl _) gle ?_
   exact ⟨ov, C, hO, hovm, hov, rfl⟩
theorem before_cc (H : Gh) (L : Chunks) (x y : POp) (px py : Value) (hx : Ids H L px x.preds) (hy : Ids H L py y.preds) (hsx : SmallO x) (hsy : SmallO y) :
    CC Tryd.prog 40 #[ag (encOp x px), ag (encOp y py)] H L (fun u H' L' => u = .bool (beforeB x y) ∧ H = H' ∧ L = L') := by
 refine cc_of Tryd.func40 rfl (Nat.le_of_ble_eq_true rfl) ?_
 simp only [Tryd.ntmps40]
 refine gc_seq (gc_seqr [(.nm, 0), (.nm, 1), (.mv, 2)] rfl ?_)
 refine gr_nx rfl rfl rfl (nx_box (l := encOp x px) rfl rfl) ?_; rintro _ _ _ _ ⟨b2, rfl, rfl, rfl⟩; refine ⟨trivial, ?_⟩
 refine gr_nx rfl rfl rfl (nx_box (l := encOp y py) rfl rfl) ?_; rintro _ _ _ _ ⟨b3, rfl, rfl, rfl⟩; refine ⟨trivial, ?_⟩
 refine ga rfl rfl rfl rfl ?_
 refine gr_nil (gk_then ?_)
 refine gc_seq ?_
 refine gc_draw Tryd.mixed [(.mv, 0), (.mv, 1), (.mv, 2), (.mv, 3), (.mv, 4), (.mv, 5), (.mv, 6), (.mv, 7), (.mv, 8), (.mv, 9), (.mv, 10), (.mv, 11), (.mv, 12), (.mv, 14), (.nm, 13), (.fin, 15), (.fin, 16), (.fin, 17), (.fin, 18), (.fin, 19), (.fin, 20)] (by decide +kernel) _ (List.Sublist.refl _) ?_
 refine gr_rd rfl rfl rfl (rd_fieldAddr Tryd.fa38_2 rfl) ?_
 refine gr_rd rfl rfl rfl (rd_load1 Tryd.to3 rfl (Cells.own (l := encOp x px) (T := 38) (z := (0, 0)) (by simp [baseL])) (encOp_36 _ _)) ?_
 refine gr_rd rfl rfl rfl (rd_fieldAddr Tryd.fa38_2 rfl) ?_
 refine gr_rd rfl rfl rfl (rd_load1 Tryd.to3 rfl (Cells.own (l := encOp y py) (T := 38) (z := (0, 0)) (by simp [baseL])) (encOp_36 _ _)) ?_
 refine gr_rd rfl rfl rfl (rd_lss rfl rfl) ?_
 refine gm rfl rfl rfl rfl ?_
 refine gr_split rfl (fun hg5 => ?_) (fun hg5 => ?_)
 ·skip
  refine gr_no rfl rfl rfl ?_
  refine gr_no rfl rfl rfl ?_
  refine gr_no rfl rfl rfl ?_
  refine gr_no rfl rfl rfl ?_
  refine gr_no rfl rfl rfl ?_
  refine gr_no rfl rfl rfl ?_
  refine gr_no rfl rfl rfl ?_
  refine gr_no rfl rfl rfl ?_
  refine gr_no rfl rfl rfl ?_
  refine gr_no rfl rfl rfl ?_
  refine gr_no rfl rfl rfl ?_
  refine gr_no rfl rfl rfl ?_
  refine gr_no rfl rfl rfl ?_
  (first | (refine gr_fin rfl rfl rfl (Rd.nx (rd_pick_t rfl rfl)) ?_; rintro _ _ _ _ ⟨rfl, rfl, rfl⟩) | (refine gr_fin rfl rfl rfl (Rd.nx (rd_pick_f rfl rfl)) ?_; rintro _ _ _ _ ⟨rfl, rfl, rfl⟩))
  refine gr_fin rfl rfl rfl (Rd.nx (rd_assign rfl)) ?_; rintro _ _ _ _ ⟨rfl, rfl, rfl⟩
  refine gr_nil (gk_then ?_)
  refine gc_ret ?_
  refine gk_drop (L' := L) sba ?_
  refine gk_result (L' := L) (.inl rfl) _ (res1 rfl rfl) (List.Sublist.refl _) (Gh.le_refl _) ?_
  refine ⟨?_, rfl, rfl⟩
  first
    | (rw [beforeB, hg5]; rfl)
    | (rw [beforeB, hg5, hg11]; rfl)
 ·skip
  refine gr_rd rfl rfl rfl (rd_fieldAddr Tryd.fa38_2 rfl) ?_
  refine gr_rd rfl rfl rfl (rd_load1 Tryd.to3 rfl (Cells.own (l := encOp x px) (T := 38) (z := (0, 0)) (by simp [baseL])) (encOp_36 _ _)) ?_
  refine gr_rd rfl rfl rfl (rd_fieldAddr Tryd.fa38_2 rfl) ?_
  refine gr_rd rfl rfl rfl (rd_load1 Tryd.to3 rfl (Cells.own (l := encOp y py) (T := 38) (z := (0, 0)) (by simp [baseL])) (encOp_36 _ _)) ?_
  refine gr_rd rfl rfl rfl (rd_eql rfl rfl) ?_
  refine gm rfl rfl rfl rfl ?_
  refine gr_split rfl (fun hg11 => ?_) (fun hg11 => ?_)
  ·skip
   refine gr_rd rfl rfl rfl (rd_loadA Tryd.ta38 rfl (Cells.own (l := encOp x px) (T := 38) (z := (0, 0)) (by simp [baseL])) (Seg.all _) (encOp_length _ _)) ?_
   refine gr_rd rfl rfl rfl (rd_loadA Tryd.ta38 rfl (Cells.own (l := encOp y py) (T := 38) (z := (0, 0)) (by simp [baseL])) (Seg.all _) (encOp_length _ _)) ?_
   refine gr_nx rfl rfl rfl (nx_call Tryd.en16 rfl (rname_cc _ _ x px (hx.mono (Gh.le_refl _) (by intro x hx; simp [hx])) hsx)) ?_; rintro v18 H' L' hle ⟨rfl, rfl, rfl⟩; refine ⟨kp, ?_⟩
   refine gr_fin rfl rfl rfl (nx_call Tryd.en16 rfl (rname_cc _ _ y py (hy.mono (Gh.le_refl _) (by intro x hx; simp [hx])) hsy)) ?_; rintro v20 H' L' hle ⟨rfl, rfl, rfl⟩
   refine gr_fin rfl rfl rfl (nx_call Tryd.en57 rfl (rcmp_cc _ _ _ _)) ?_; rintro v21 H' L' hle ⟨rfl, rfl, rfl⟩
   (refine gr_fin rfl rfl rfl (Rd.nx (rd_lss rfl rfl)) ?_; rintro _ _ _ _ ⟨rfl, rfl, rfl⟩)
   (first | (refine gr_fin rfl rfl rfl (Rd.nx (rd_pick_t rfl rfl)) ?_; rintro _ _ _ _ ⟨rfl, rfl, rfl⟩) | (refine gr_fin rfl rfl rfl (Rd.nx (rd_pick_f rfl rfl)) ?_; rintro _ _ _ _ ⟨rfl, rfl, rfl⟩))
   (first | (refine gr_fin rfl rfl rfl (Rd.nx (rd_pick_t rfl rfl)) ?_; rintro _ _ _ _ ⟨rfl, rfl, rfl⟩) | (refine gr_fin rfl rfl rfl (Rd.nx (rd_pick_f rfl rfl)) ?_; rintro _ _ _ _ ⟨rfl, rfl, rfl⟩))
   refine gr_fin rfl rfl rfl (Rd.nx (rd_assign rfl)) ?_; rintro _ _ _ _ ⟨rfl, rfl, rfl⟩
   refine gr_nil (gk_then ?_)
   refine gc_ret ?_
   refine gk_drop (L' := L) sba ?_
   refine gk_result (L' := L) (.inl rfl) _ (res1 rfl rfl) (List.Sublist.refl _) (Gh.le_refl _) ?_
   refine ⟨?_, rfl, rfl⟩
   first
     | (rw [beforeB, hg5]; rfl)
     | (rw [beforeB, hg5, hg11]; rfl)
  ·skip
   refine gr_no rfl rfl rfl ?_
   refine gr_no rfl rfl rfl ?_
   refine gr_no rfl rfl rfl ?_
   refine gr_no rfl rfl rfl ?_
   refine gr_no rfl rfl rfl ?_
   refine gr_no rfl rfl rfl ?_
   (first | (refine gr_fin rfl rfl rfl (Rd.nx (rd_pick_t rfl rfl)) ?_; rintro _ _ _ _ ⟨rfl, rfl, rfl⟩) | (refine gr_fin rfl rfl rfl (Rd.nx (rd_pick_f rfl rfl)) ?_; rintro _ _ _ _ ⟨rfl, rfl, rfl⟩))
   (first | (refine gr_fin rfl rfl rfl (Rd.nx (rd_pick_t rfl rfl)) ?_; rintro _ _ _ _ ⟨rfl, rfl, rfl⟩) | (refine gr_fin rfl rfl rfl (Rd.nx (rd_pick_f rfl rfl)) ?_; rintro _ _ _ _ ⟨rfl, rfl, rfl⟩))
   refine gr_fin rfl rfl rfl (Rd.nx (rd_assign rfl)) ?_; rintro _ _ _ _ ⟨rfl, rfl, rfl⟩
   refine gr_nil (gk_then ?_)
   refine gc_ret ?_
   refine gk_drop (L' := L) sba ?_
   refine gk_result (L' := L) (.inl rfl) _ (res1 rfl rfl) (List.Sublist.refl _) (Gh.le_refl _) ?_
   refine ⟨?_, rfl, rfl⟩
   first
     | (rw [beforeB, hg5]; rfl)
     | (rw [beforeB, hg5, hg11]; rfl)
set_option maxHeartbeats 2000000 in
theorem both11_cc (H : Gh) (hG : Glob H) (L : Chunks) (v : Value) (xs : List (Tr.Make × Value)) (hM : SlT encMakeV 78 H [] v xs) (hMp : ∀ p ∈ xs, Ids H [] p.2 p.1.op.preds) (hMr : ∀ p ∈ xs, RngM p.1) :
    CC Tryd.prog 37 #[v] H L (fun u H' L' => ∃ b bo bw bt br s ob ow ot v0 v1 v2 v3 ov wv C0 C1 C2 C3, u = .tuple #[pt b 0, pt br 0] ∧ DRep H' s ob ow ot ∧ RSet H' s v0 v1 v2 v3 ov wv C0 C1 C2 C3 ∧ Closed FitO s ∧ s.ops.length + s.wait.length ≤ 30 ∧ ((b, .cells [.map (some bo), .map (some bw), .map (some bt)].toArray 83 (0, 0)) :: (bo, ob) :: (bw, ow) :: (bt, ot) :: ((br, .cells [v0, v1, v2, v3].toArray 48 (0, 0)) :: (C0 ++ (C1 ++ (C2 ++ (C3 ++ L)))))) = L') := by
 have hLE := Gh.le_refl H
 refine cc_of Tryd.func37 rfl (Nat.le_of_ble_eq_true rfl) ?_
 simp only [Tryd.ntmps37]
 refine gc_seq (gc_seqr [(.mv, 0), (.mv, 1)] rfl ?_)
 refine ga rfl rfl rfl rfl ?_
 refine ga rfl rfl rfl rfl ?_
 refine gr_nil (gk_then ?_)
 refine gc_seq (gc_seqr [(.nm, 0), (.mv, 1), (.nm, 2), (.mv, 3), (.mv, 4)] rfl ?_)
 refine gr_nx rfl rfl rfl (nx_call Tryd.en12 rfl (new_cc _ _)) ?_; rintro v8 H' L' hle ⟨b, bo, bw, bt, ob0, ow0, ot0, rfl, hR0, rfl, rfl⟩; refine ⟨trivial, ?_⟩
 refine gr_rd rfl rfl rfl (rd_build Tryd.bt48 (ps := []) (l := [nilS, nilS, nilS, nilS]) rfl rfl) ?_
 refine gr_nx rfl rfl rfl (nx_box (l := [nilS, nilS, nilS, nilS]) rfl rfl) ?_; rintro _ _ _ _ ⟨br, rfl, rfl, rfl⟩; refine ⟨trivial, ?_⟩
 refine ga rfl rfl rfl rfl ?_
 refine ga rfl rfl rfl rfl ?_
 refine gr_nil (gk_then ?_)
 refine gc_seq ?_
 refine gc_seq (gc_seqr [(.mv, 0), (.nm, 1), (.mv, 2), (.mv, 3)] rfl ?_)
 refine gm rfl rfl rfl rfl ?_
 refine gr_nx rfl rfl rfl (nx_call Tryd.en11 rfl (made_cc _ _ _ xs hM hMp hMr)) ?_; rintro v12 H' L' hle ⟨ov, Cm, hOm, hmade, hov, hol, rfl⟩; refine ⟨trivial, ?_⟩
 obtain ⟨Ao, co, rfl, hco⟩ := hOm.slice
 have hLE := Gh.le_trans hLE hle
 replace hG := hG.mono hle
 replace hR0 := hR0.up hle
 refine gr_sealOw encOpV_length hOm rfl (by omega) (fun HH hle hsm => ?_)
 have hLE := Gh.le_trans hLE hle
 replace hG := hG.mono hle
 replace hR0 := hR0.up hle
 replace hov : ∀ p ∈ ov, Ids HH [] p.2 p.1.preds ∧ FitO p.1 := fun p hp => ⟨(hov p hp).1.up hle, (hov p hp).2⟩
 refine gr_perm (L' := ((b, .cells [.map (some bo), .map (some bw), .map (some bt)].toArray 83 (0, 0)) :: (bo, ob0) :: (bw, ow0) :: (bt, ot0) :: ((br, .cells [nilS, nilS, nilS, nilS].toArray 48 (0, 0)) :: ([] ++ ([] ++ ([] ++ ([] ++ L))))))) (by haveI : DecidableEq (Nat × Obj) := fun _ _ => Classical.propDecidable _; rw [List.perm_iff_count]; intro a; simp only [List.count_append, List.count_cons, List.count_nil]; ac_rfl) ?_
 refine gr_rd rfl rfl rfl (rd_lenS Tryd.underlying25 rfl) ?_
 refine gm rfl rfl rfl rfl ?_
 refine gr_nil (gk_then ?_)
 refine gc_block ?_
 refine gc_loop (fun t : TB => [(4, pt b 0), (5, pt br 0), (12, .slice Ao ov.length co), (13, i64 ov.length), (14, i64 t.k)]) (fun t H1 L1 => HH ≤ H1 ∧ ((b, .cells [.map (some bo), .map (some bw), .map (some bt)].toArray 83 (0, 0)) :: (bo, t.ob) :: (bw, t.ow) :: (bt, t.ot) :: ((br, .cells [t.v0, t.v1, t.v2, t.v3].toArray 48 (0, 0)) :: (t.C0 ++ (t.C1 ++ (t.C2 ++ (t.C3 ++ L)))))) = L1 ∧ DRep H1 t.s t.ob t.ow t.ot ∧ RSet H1 t.s t.v0 t.v1 t.v2 t.v3 t.ov t.wv t.C0 t.C1 t.C2 t.C3 ∧ Closed FitO t.s ∧ t.k ≤ ov.length ∧ t.s.ops.length + t.s.wait.length ≤ t.k) (fun t => ov.length - t.k) (⟨0, DSet.empty, ob0, ow0, ot0, nilS, nilS, nilS, nilS, [], [], [], [], [], []⟩) ?_ sbs ?_
 ·exact ⟨Gh.le_refl _, rfl, hR0, ⟨Ow.nil, rfl, Ow.nil, rfl, Ow.nil, Ow.nil, (fun p hp => by cases hp), (fun p hp => by cases hp)⟩, Closed.empty _, Nat.zero_le _, Nat.le_refl _⟩
 ·rintro ⟨k, s, ob, ow, ot, v0, v1, v2, v3, sv, sw, C0, C1, C2, C3⟩ H1 L1 ⟨hle, rfl, hR, hS, hC, hk, hsz⟩
  simp only at hR hS hC hk hsz
  have hLE := Gh.le_trans hLE hle
  replace hG := hG.mono hle
  replace hsm := hsm.up hle
  replace hov : ∀ p ∈ ov, Ids H1 [] p.2 p.1.preds ∧ FitO p.1 := fun p hp => ⟨(hov p hp).1.up hle, (hov p hp).2⟩
  show GC _ _ _ _ [(4, pt b 0), (5, pt br 0), (12, .slice Ao ov.length co), (13, i64 ov.length), (14, i64 k)] H1 ((b, .cells [.map (some bo), .map (some bw), .map (some bt)].toArray 83 (0, 0)) :: (bo, ob) :: (bw, ow) :: (bt, ot) :: ((br, .cells [v0, v1, v2, v3].toArray 48 (0, 0)) :: (C0 ++ (C1 ++ (C2 ++ (C3 ++ L))))))
  refine gc_seq (gc_seqr [(.mv, 0)] rfl ?_)
  refine gr_rd rfl rfl rfl (rd_lss rfl rfl) ?_
  refine gr_nil (gk_then ?_)
  refine gc_seq ?_
  refine gc_cond rfl (fun hcR3 => ?_) (fun hcR3 => ?_)
  ·have hlt : k < ov.length := by simpa using hcR3
   obtain ⟨⟨q, pq⟩, hpq⟩ : ∃ p, ov[k]? = some p := ⟨_, List.getElem?_eq_getElem hlt⟩
   obtain ⟨_, bm, om, _, lm, hem, hcm, hnm, hm0, hm1, hm2⟩ := hsm
   cases hem
   obtain ⟨hAo, hcA, hsA⟩ := slt_at (i := (k : Int)) hm1 hm2 hpq rfl
   obtain ⟨hqi, hfit⟩ := hov _ (List.mem_of_getElem? hpq)
   simp only at hqi hfit
   have htl := take_len s q
   refine gc_skip ?_
   refine gk_then ?_
   refine gc_seq ?_
   refine gc_block ?_
   refine gc_seq (gc_seqr [(.mv, 0), (.mv, 1), (.nm, 2), (.nm, 3)] rfl ?_)
   refine gr_rd rfl rfl rfl (rd_indexS Tryd.underlying25 Tryd.sizeOf38 rfl rfl hAo (by omega) (by omega)) ?_
   refine gr_rd rfl rfl rfl (rd_loadA Tryd.ta38 rfl (hcA.mono (Gh.le_refl _) (fun x hx => by cases hx)) hsA (encOpV_length _)) ?_
   refine gr_nx rfl rfl rfl (nx_alloc Tryd.zeroValue38 rfl) ?_; rintro _ _ _ _ ⟨b7, rfl, rfl, rfl⟩; refine ⟨trivial, ?_⟩
   refine gr_nx0 rfl rfl (nx_store (vs := encOpV (q, pq)) Tryd.sizeOf38 rfl rfl rfl (encOp_length _ _) upd (by simp) (encOp_ones _ hqi.one)) ?_; rintro _ _ _ _ ⟨rfl, rfl, rfl⟩; refine ⟨trivial, ?_⟩
   rw [wr_all (by simp)]
   refine gr_nil (gk_then ?_)
   refine gc_seq (gc_seqr [(.mv, 0), (.mv, 1), (.nm, 2)] rfl ?_)
   refine gm rfl rfl rfl rfl ?_
   refine gr_rd rfl rfl rfl (rd_loadA Tryd.ta38 rfl (Cells.own (l := encOpV (q, pq)) (T := 38) (z := (0, 0)) (by simp [baseL])) (Seg.all _) (encOp_length _ _)) ?_
   refine gr_perm (L' := ((b, .cells [.map (some bo), .map (some bw), .map (some bt)].toArray 83 (0, 0)) :: (bo, ob) :: (bw, ow) :: (bt, ot) :: ((br, .cells [v0, v1, v2, v3].toArray 48 (0, 0)) :: (C0 ++ (C1 ++ (C2 ++ (C3 ++ ((b7, .cells (encOpV (q, pq)).toArray 38 (0, 0)) :: L)))))))) (by haveI : DecidableEq (Nat × Obj) := fun _ _ => Classical.propDecidable _; rw [List.perm_iff_count]; intro a; simp only [List.count_append, List.count_cons, List.count_nil]; ac_rfl) ?_
   refine gr_nx rfl rfl rfl (nx_call Tryd.en13 rfl (take_cc _ hG _ hR (by omega) q pq (hqi.any) hfit.small)) ?_; rintro v20 H' L' hle ⟨ob2, ow2, ot2, Cl, vl, hR2, hOl, rfl, rfl⟩; refine ⟨trivial, ?_⟩
   have hLE := Gh.le_trans hLE hle
   replace hG := hG.mono hle
   replace hqi := hqi.up hle
   replace hS := hS.up hle
   refine gr_nil (gk_then ?_)
   refine gc_seqr [(.mv, 0), (.mv, 1), (.nm, 2)] rfl ?_
   refine gm rfl rfl rfl rfl ?_
   refine gr_rd rfl rfl rfl (rd_loadA Tryd.ta38 rfl (Cells.own (l := encOpV (q, pq)) (T := 38) (z := (0, 0)) (by simp [baseL])) (Seg.all _) (encOp_length _ _)) ?_
   refine gr_perm (L' := ((br, .cells [v0, v1, v2, v3].toArray 48 (0, 0)) :: (C0 ++ (C1 ++ (C2 ++ (C3 ++ (Cl ++ ((b, .cells [.map (some bo), .map (some bw), .map (some bt)].toArray 83 (0, 0)) :: (bo, ob2) :: (bw, ow2) :: (bt, ot2) :: ((b7, .cells (encOpV (q, pq)).toArray 38 (0, 0)) :: L))))))))) (by haveI : DecidableEq (Nat × Obj) := fun _ _ => Classical.propDecidable _; rw [List.perm_iff_count]; intro a; simp only [List.count_append, List.count_cons, List.count_nil]; ac_rfl) ?_
   refine gr_nx rfl rfl rfl (nx_call Tryd.en19 rfl (rtake_cc _ _ hS (by omega) q pq hqi hfit.small)) ?_; rintro v23 H' L' hle ⟨w0, w1, w2, w3, sv', sw', F0, F1, F2, F3, Ck, vk, hS2, hOk, rfl, rfl, rfl⟩; refine ⟨trivial, ?_⟩
   refine gr_nil ?_
   refine gk_inBlock ?_
   refine gk_then ?_
   refine gc_seqr [(.mv, 0), (.mv, 1)] rfl ?_
   (first | refine gr_rd rfl rfl rfl (rd_add rfl rfl (IntWalk.i64_in _ (by omega))) ?_ | refine gr_rd rfl rfl rfl (rd_add rfl rfl rfl) ?_)
   refine gm rfl rfl rfl rfl ?_
   refine gr_nil ?_
   refine gk_perm (L' := ([(b7, .cells (encOpV (q, pq)).toArray 38 (0, 0))] ++ (Ck ++ Cl)) ++ ((b, .cells [.map (some bo), .map (some bw), .map (some bt)].toArray 83 (0, 0)) :: (bo, ob2) :: (bw, ow2) :: (bt, ot2) :: ((br, .cells [w0, w1, w2, w3].toArray 48 (0, 0)) :: (F0 ++ (F1 ++ (F2 ++ (F3 ++ L))))))) (by haveI : DecidableEq (Nat × Obj) := fun _ _ => Classical.propDecidable _; rw [List.perm_iff_count]; intro a; simp only [List.count_append, List.count_cons, List.count_nil]; ac_rfl) ?_
   refine gk_drop (L' := ((b, .cells [.map (some bo), .map (some bw), .map (some bt)].toArray 83 (0, 0)) :: (bo, ob2) :: (bw, ow2) :: (bt, ot2) :: ((br, .cells [w0, w1, w2, w3].toArray 48 (0, 0)) :: (F0 ++ (F1 ++ (F2 ++ (F3 ++ L))))))) (List.sublist_append_right _ _) ?_
   refine gk_round ⟨k + 1, (take s q).1, ob2, ow2, ot2, w0, w1, w2, w3, sv', sw', F0, F1, F2, F3⟩ ?_ ⟨by first | assumption | exact Gh.le_trans (by assumption) (by assumption), rfl, hR2, hS2, hC.take hfit, by simp only; omega, by simp only; omega⟩ sbs
   show ov.length - (k + 1) < ov.length - k
   omega
  ·skip
   refine gc_exit ?_
   refine gk_exit_then ?_
   refine gk_exit_then ?_
   refine gk_here ?_
   refine gk_then ?_
   refine gc_seq (gc_seqr [(.mv, 0), (.mv, 1), (.mv, 2), (.mv, 3)] rfl ?_)
   refine gm rfl rfl rfl rfl ?_
   refine gm rfl rfl rfl rfl ?_
   refine ga rfl rfl rfl rfl ?_
   refine ga rfl rfl rfl rfl ?_
   refine gr_nil (gk_then ?_)
   refine gc_ret ?_
   refine gk_result (L' := ((b, .cells [.map (some bo), .map (some bw), .map (some bt)].toArray 83 (0, 0)) :: (bo, ob) :: (bw, ow) :: (bt, ot) :: ((br, .cells [v0, v1, v2, v3].toArray 48 (0, 0)) :: (C0 ++ (C1 ++ (C2 ++ (C3 ++ L))))))) (.inl rfl) _ (res2 rfl rfl rfl) (List.Sublist.refl _) gle ?_
   exact ⟨b, bo, bw, bt, br, s, ob, ow, ot, v0, v1, v2, v3, sv, sw, C0, C1, C2, C3, rfl, hR, hS, hC, by omega, rfl⟩
end Go.Proofs.YtfhldfjknagidaaDoor
