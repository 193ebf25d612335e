/-
  Walks: what is there is closed.
-/
import Derived.Test.YtfhldfjknagidaaDoorVKs23
set_option linter.unusedSimpArgs false
set_option linter.unusedVariables false
set_option linter.unnecessarySimpa false
set_option linter.all false
namespace Go.Proofs.YtfhldfjknagidaaDoor
open Go.VK Go.Tr
set_option maxRecDepth 20000
attribute [local irreducible] Go.Tr.sha
theorem get_append {l : List (Nm × POp)} {n m : Nm} {o : POp} (h : has l m = true) : Tr.get (l ++ [(n, o)]) m = Tr.get l m := by
  rw [← get_isSome] at h
  simp only [Tr.get, List.find?_append] at h ⊢
  cases hf : l.find? (fun p => p.1 == m) with
  | none => rw [hf] at h; cases h
  | some p => rfl
theorem has_append (l l' : List (Nm × POp)) (m : Nm) : has (l ++ l') m = (has l m || has l' m) := by simp [has]
theorem deepest_congr {s s' : DSet} : ∀ (ps : List Nm) (z : Int), (∀ p ∈ ps, Tr.get s'.ops p = Tr.get s.ops p) → ps.foldl (fun n p => max n ((Tr.get s'.ops p).elim 0 (·.depth))) z = ps.foldl (fun n p => max n ((Tr.get s.ops p).elim 0 (·.depth))) z
  | [], _, _ => rfl
  | p :: r, z, h => by
    simp only [List.foldl_cons, h p List.mem_cons_self]
    exact deepest_congr r _ fun q hq => h q (List.mem_cons_of_mem _ hq)
theorem whole_mem {s : DSet} {o : POp} : whole s o = true ↔ ∀ p ∈ o.preds, has s.ops p = true := by rw [whole, List.all_eq_true]
/-- A set in which each operation has all that stands ahead of it, and its right depth; P: what holds of all that came. -/
structure Closed (P : POp → Prop) (s : DSet) : Prop where
  nd : (s.ops.map (·.1) ++ s.wait.map (·.1)).Nodup
  nm : ∀ p ∈ s.ops ++ s.wait, nameOf p.2 = p.1 ∧ good p.2 = true ∧ P p.2
  cl : ∀ p ∈ s.ops, whole s p.2 = true ∧ p.2.depth = depthOf s p.2.preds
theorem Closed.empty (P : POp → Prop) : Closed P DSet.empty := ⟨List.nodup_nil, (fun p hp => by cases hp), (fun p hp => by cases hp)⟩
theorem not_in_both {s : DSet} {n : Nm} (ho : has s.ops n = false) (hw : has s.wait n = false) : n ∉ s.ops.map (·.1) ++ s.wait.map (·.1) := by
  rw [List.mem_append, not_or]
  exact ⟨fun hx => (by rw [has_mem.2 hx] at ho; cases ho), fun hx => (by rw [has_mem.2 hx] at hw; cases hw)⟩
theorem Closed.put {P : POp → Prop} {s : DSet} {o : POp} (h : Closed P s) (ho : has s.ops (nameOf o) = false) (hw : has s.wait (nameOf o) = false) (hg : good o = true) (hP : P o) (hwh : whole s o = true) (hd : o.depth = depthOf s o.preds) :
    Closed P ⟨s.ops ++ [(nameOf o, o)], s.wait⟩ := by
  refine ⟨?_, fun p hp => ?_, fun p hp => ?_⟩
  · have hp : ((s.ops ++ [(nameOf o, o)]).map (·.1) ++ s.wait.map (·.1)).Perm (nameOf o :: (s.ops.map (·.1) ++ s.wait.map (·.1))) := by
      simp only [List.map_append, List.map_cons, List.map_nil, List.append_assoc, List.singleton_append]
      exact List.perm_middle
    exact hp.nodup_iff.2 (List.nodup_cons.2 ⟨not_in_both ho hw, h.nd⟩)
  · simp only [List.mem_append, List.mem_singleton] at hp
    rcases hp with (hp | rfl) | hp
    · exact h.nm p (List.mem_append_left _ hp)
    · exact ⟨rfl, hg, hP⟩
    · exact h.nm p (List.mem_append_right _ hp)
  · have key : whole s p.2 = true ∧ p.2.depth = depthOf s p.2.preds := by
      rcases List.mem_append.1 hp with hp | hp
      · exact h.cl p hp
      · rw [List.mem_singleton.1 hp]; exact ⟨hwh, hd⟩
    have hall := whole_mem.1 key.1
    refine ⟨whole_mem.2 fun q hq => by simp only [has_append, hall q hq, Bool.true_or], ?_⟩
    rw [key.2, depthOf, depthOf, deepest, deepest, deepest_congr (s := s) (s' := ⟨s.ops ++ [(nameOf o, o)], s.wait⟩) _ _ fun q hq => get_append (hall q hq)]
theorem Closed.come {P : POp → Prop} {s : DSet} {o : POp} (h : Closed P s) (ho : has s.ops (nameOf o) = false) (hw : has s.wait (nameOf o) = false) (hg : good o = true) (hP : P o) : Closed P ⟨s.ops, s.wait ++ [(nameOf o, o)]⟩ := by
  refine ⟨?_, fun p hp => ?_, h.cl⟩
  · have hp : (s.ops.map (·.1) ++ (s.wait ++ [(nameOf o, o)]).map (·.1)).Perm (nameOf o :: (s.ops.map (·.1) ++ s.wait.map (·.1))) := by
      simp only [List.map_append, List.map_cons, List.map_nil]
      rw [← List.append_assoc]
      exact List.perm_append_singleton _ _
    exact hp.nodup_iff.2 (List.nodup_cons.2 ⟨not_in_both ho hw, h.nd⟩)
  · simp only [List.mem_append, List.mem_singleton] at hp
    rcases hp with hp | hp | rfl
    · exact h.nm p (List.mem_append_left _ hp)
    · exact h.nm p (List.mem_append_right _ hp)
    · exact ⟨rfl, hg, hP⟩
theorem Closed.drop {P : POp → Prop} {s : DSet} (h : Closed P s) (f : Nm × POp → Bool) : Closed P ⟨s.ops, s.wait.filter f⟩ :=
  ⟨h.nd.sublist (List.Sublist.append (List.Sublist.refl _) (List.filter_sublist.map _)), fun p hp => h.nm p (by
    rcases List.mem_append.1 hp with hp | hp
    · exact List.mem_append_left _ hp
    · exact List.mem_append_right _ (List.mem_filter.1 hp).1), h.cl⟩
theorem Closed.settle {P : POp → Prop} : ∀ (k : Nat) (s : DSet) (out : List Nm), Closed P s → Closed P (Tr.settle k s out).1
  | 0, s, out, h => h
  | k + 1, s, out, h => by
    have hnd : (s.wait.map (·.1)).Nodup := (List.nodup_append.1 h.nd).2.1
    cases hr : readyOf s with
    | none => rw [settle_done hnd hr]; exact h
    | some n =>
      obtain ⟨q, h1, h2, h3⟩ := settle_next (k := k) (out := out) hnd hr
      rw [h3]
      have hm := get_mem h1
      have hn := (h.nm _ (List.mem_append_right _ hm))
      simp only at hn
      have hho : has s.ops n = false := by
        cases hh : has s.ops n with
        | false => rfl
        | true => exact absurd rfl ((List.nodup_append.1 h.nd).2.2 n (has_mem.1 hh) n (List.mem_map.2 ⟨_, hm, rfl⟩))
      obtain ⟨rfl, hg, hP⟩ := hn
      split
      · rename_i hd
        exact Closed.settle k _ _ ((h.drop _).put hho (has_dropped _ _) hg hP h2 hd)
      · exact Closed.settle k _ _ (h.drop _)
theorem Closed.take {P : POp → Prop} {s : DSet} {o : POp} (h : Closed P s) (hP : P o) : Closed P (Tr.take s o).1 := by
  unfold Tr.take
  split
  · exact h
  · rename_i hg
    split
    · exact h
    · rename_i hno
      have hgd : good o = true := by simpa using hg
      simp only [Bool.or_eq_true, not_or, Bool.not_eq_true] at hno
      split
      · exact h.come hno.1 hno.2 hgd hP
      · rename_i hw
        split
        · exact h
        · rename_i hd
          exact Closed.settle _ _ _ (h.put hno.1 hno.2 hgd hP (by simpa using hw) (by simpa using hd))
theorem Closed.get {P : POp → Prop} {s : DSet} {n : Nm} {o : POp} (h : Closed P s) (hg : Tr.get s.ops n = some o) : nameOf o = n ∧ good o = true ∧ P o ∧ whole s o = true ∧ o.depth = depthOf s o.preds ∧ n ∉ waits s := by
  have hm := get_mem hg
  obtain ⟨h1, h2, h3⟩ := h.nm _ (List.mem_append_left _ hm)
  obtain ⟨h4, h5⟩ := h.cl _ hm
  refine ⟨h1, h2, h3, h4, h5, fun hw => ?_⟩
  rw [waits, mem_rising] at hw
  exact (List.nodup_append.1 h.nd).2.2 n (List.mem_map.2 ⟨_, hm, rfl⟩) n hw rfl
structure DS where
  k : Nat
  s : DSet
  ob : Obj
  ow : Obj
  ot : Obj

set_option maxHeartbeats 4000000 in
theorem dagClosed_cc (H : Gh) (hG : Glob H) (L : Chunks) (v vo : Value) (xs : List (Tr.Make × Value)) (ns : List Int) (hM : SlT encMakeV 78 H [] v xs) (hMp : ∀ p ∈ xs, Ids H [] p.2 p.1.op.preds) (hMr : ∀ p ∈ xs, RngM p.1) (hI : Ints H [] vo ns) :
    CC Tryd.prog 3 #[v, vo] H L (fun u H' L' => u = .bool true ∧ L = L') := by
  have hLE := Gh.le_refl H
  obtain ⟨Ai, ci, rfl⟩ : ∃ a c, vo = .slice a ns.length c := by obtain ⟨a, _, _, c, _, h, _⟩ := hI; exact ⟨a, c, h⟩
  refine cc_of Tryd.func3 rfl (Nat.le_of_ble_eq_true rfl) ?_
  simp only [Tryd.ntmps3]
  refine gc_seq ?_
  refine gc_seqr [(.mv, 0)] rfl ?_
  refine gr_rd rfl rfl rfl (rd_assign rfl) ?_
  refine gr_nil ?_
  refine gk_then ?_
  refine gc_seq ?_
  refine gc_seq ?_
  refine gc_seqr [(.nm, 0), (.mv, 1)] rfl ?_
  refine gr_nx rfl rfl rfl (nx_call Tryd.en10 rfl (alive_cc _ hG _)) ?_; rintro v18 H' L' hle ⟨rfl, rfl⟩; refine ⟨trivial, ?_⟩
  have hLE := Gh.le_trans hLE hle
  replace hG := hG.mono hle
  replace hM := hM.up hle
  replace hI := hI.up hle
  replace hMp : ∀ p ∈ xs, Ids _ [] p.2 p.1.op.preds := fun p hp => (hMp p hp).up hle
  refine gr_rd rfl rfl rfl (rd_not rfl) ?_
  refine gr_nil ?_
  refine gk_then ?_
  refine gc_no rfl ?_
  refine gc_skip ?_
  refine gk_then ?_
  refine gc_seq ?_
  refine gc_seqr [(.mv, 0), (.nm, 1), (.mv, 2)] rfl ?_
  refine gr_rd rfl rfl rfl (rd_move rfl) ?_
  refine gr_nx rfl rfl rfl (nx_call Tryd.en11 rfl (made_cc _ _ _ xs hM hMp hMr)) ?_; rintro v21 H' L' hle ⟨ov, Cm, hOm, hmade, hov, hol, rfl⟩; refine ⟨trivial, ?_⟩
  obtain ⟨Ao, co, rfl, hco⟩ := hOm.slice
  have hLE := Gh.le_trans hLE hle
  replace hG := hG.mono hle
  replace hI := hI.up hle
  refine gr_sealOw encOpV_length hOm rfl (by omega) (fun HH hle hsm => ?_)
  have hLE := Gh.le_trans hLE hle
  replace hG := hG.mono hle
  replace hI := hI.up hle
  replace hov : ∀ p ∈ ov, Ids HH [] p.2 p.1.preds ∧ FitO p.1 := fun p hp => ⟨(hov p hp).1.up hle, (hov p hp).2⟩
  refine gr_rd rfl rfl rfl (rd_assign rfl) ?_
  refine gr_nil ?_
  refine gk_then ?_
  refine gc_seq ?_
  refine gc_seq ?_
  refine gc_seqr [(.mv, 0), (.mv, 1), (.mv, 2), (.mv, 3), (.mv, 4), (.mv, 5), (.mv, 6), (.mv, 7)] rfl ?_
  refine gr_rd rfl rfl rfl (rd_move rfl) ?_
  refine gr_rd rfl rfl rfl (rd_lenS Tryd.underlying23 rfl) ?_
  refine gr_rd rfl rfl rfl (rd_gtr rfl rfl) ?_
  refine gr_rd rfl rfl rfl (rd_move rfl) ?_
  refine gr_split rfl (fun hg3 => ?_) (fun hg3 => ?_)
  · skip
    refine gr_no rfl rfl rfl ?_
    refine gr_no rfl rfl rfl ?_
    refine gr_no rfl rfl rfl ?_
    (first | refine gr_rd rfl rfl rfl (rd_pick_t rfl rfl) ?_ | refine gr_rd rfl rfl rfl (rd_pick_f rfl rfl) ?_)
    refine gr_nil ?_
    refine gk_then ?_
    refine gc_yes rfl ?_
    refine gc_seq ?_
    refine gc_seqr [(.mv, 0)] rfl ?_
    refine gr_rd rfl rfl rfl (rd_assign rfl) ?_
    refine gr_nil ?_
    refine gk_then ?_
    refine gc_ret ?_
    refine gk_ret_then ?_
    refine gk_drop (L' := L) (by repeat (first | exact List.Sublist.refl _ | exact List.nil_sublist _ | apply List.Sublist.cons_cons | apply List.Sublist.cons | refine List.Sublist.trans ?_ (List.sublist_append_right _ _))) ?_
    refine gk_result (L' := L) (.inl rfl) _ (res1 rfl rfl) (List.Sublist.refl _) (by first | exact Gh.le_refl _ | assumption | exact Gh.le_trans (by assumption) (by assumption)) ?_
    exact ⟨rfl, rfl⟩
  · skip
    refine gr_rd rfl rfl rfl (rd_move rfl) ?_
    refine gr_rd rfl rfl rfl (rd_lenS Tryd.underlying25 rfl) ?_
    refine gr_rd rfl rfl rfl (rd_eql rfl rfl) ?_
    (first | refine gr_rd rfl rfl rfl (rd_pick_t rfl rfl) ?_ | refine gr_rd rfl rfl rfl (rd_pick_f rfl rfl) ?_)
    refine gr_nil ?_
    refine gk_then ?_
    refine gc_cond rfl (fun hcR4 => ?_) (fun hcR4 => ?_)
    · skip
      refine gc_seq ?_
      refine gc_seqr [(.mv, 0)] rfl ?_
      refine gr_rd rfl rfl rfl (rd_assign rfl) ?_
      refine gr_nil ?_
      refine gk_then ?_
      refine gc_ret ?_
      refine gk_ret_then ?_
      refine gk_drop (L' := L) (by repeat (first | exact List.Sublist.refl _ | exact List.nil_sublist _ | apply List.Sublist.cons_cons | apply List.Sublist.cons | refine List.Sublist.trans ?_ (List.sublist_append_right _ _))) ?_
      refine gk_result (L' := L) (.inl rfl) _ (res1 rfl rfl) (List.Sublist.refl _) (by first | exact Gh.le_refl _ | assumption | exact Gh.le_trans (by assumption) (by assumption)) ?_
      exact ⟨rfl, rfl⟩
    · have hns : ¬ (60 : Int) < ns.length := by simpa using hg3
      have hol0 : ov.length ≠ 0 := by have := hcR4; simp at this; simpa using this
      have hpos : 0 < ov.length := by omega
      refine gc_skip ?_
      refine gk_then ?_
      refine gc_seq ?_
      refine gc_seqr [(.nm, 0), (.mv, 1)] rfl ?_
      refine gr_nx rfl rfl rfl (nx_call Tryd.en12 rfl (new_cc _ _)) ?_; rintro v30 H' L' hle ⟨b, bo, bw, bt, ob0, ow0, ot0, rfl, hR0, rfl, rfl⟩; refine ⟨trivial, ?_⟩
      refine gr_rd rfl rfl rfl (rd_assign rfl) ?_
      refine gr_nil ?_
      refine gk_then ?_
      refine gc_seq ?_
      refine gc_seq ?_
      refine gc_seqr [(.mv, 0), (.mv, 1), (.mv, 2)] rfl ?_
      refine gr_rd rfl rfl rfl (rd_move rfl) ?_
      refine gr_rd rfl rfl rfl (rd_lenS Tryd.underlying23 rfl) ?_
      refine gr_rd rfl rfl rfl (rd_move rfl) ?_
      refine gr_nil ?_
      refine gk_then ?_
      refine gc_block ?_
      refine gc_loop (fun t : DS => [(5, .slice Ao ov.length co), (6, pt b 0), (31, .slice Ai ns.length ci), (32, i64 ns.length), (33, i64 t.k)]) (fun t H1 L1 => HH ≤ H1 ∧ ((b, .cells [.map (some bo), .map (some bw), .map (some bt)].toArray 83 (0, 0)) :: (bo, t.ob) :: (bw, t.ow) :: (bt, t.ot) :: L) = L1 ∧ DRep H1 t.s t.ob t.ow t.ot ∧ Closed FitO t.s ∧ t.k ≤ ns.length ∧ t.s.ops.length + t.s.wait.length ≤ t.k) (fun t => ns.length - t.k) (⟨0, DSet.empty, ob0, ow0, ot0⟩) ?_ (by repeat (first | exact Subs.nil | refine Subs.cons rfl ?_)) ?_
      · exact ⟨Gh.le_refl _, rfl, hR0, Closed.empty _, Nat.zero_le _, Nat.le_refl _⟩
      · rintro ⟨k, s, ob, ow, ot⟩ H1 L1 ⟨hle, rfl, hR, hC, hk, hsz⟩
        simp only at hR hC hk hsz
        have hLE := Gh.le_trans hLE hle
        replace hG := hG.mono hle
        replace hI := hI.up hle
        replace hsm := hsm.up hle
        replace hov : ∀ p ∈ ov, Ids H1 [] p.2 p.1.preds ∧ FitO p.1 := fun p hp => ⟨(hov p hp).1.up hle, (hov p hp).2⟩
        show GC _ _ _ _ [(5, .slice Ao ov.length co), (6, pt b 0), (31, .slice Ai ns.length ci), (32, i64 ns.length), (33, i64 k)] H1 ((b, .cells [.map (some bo), .map (some bw), .map (some bt)].toArray 83 (0, 0)) :: (bo, ob) :: (bw, ow) :: (bt, ot) :: L)
        refine gc_seq ?_
        refine gc_seqr [(.mv, 0)] rfl ?_
        refine gr_rd rfl rfl rfl (rd_lss rfl rfl) ?_
        refine gr_nil ?_
        refine gk_then ?_
        refine gc_seq ?_
        refine gc_cond rfl (fun hcR8 => ?_) (fun hcR8 => ?_)
        · have hlt : k < ns.length := by simpa using hcR8
          obtain ⟨_, bi, oi, _, li, hei, hci, hni, hi0, hi1, hi2⟩ := hI
          cases hei
          obtain ⟨hAi, hca, hsa⟩ := slt_at (i := (k : Int)) hi1 hi2 (List.getElem?_eq_getElem hlt) rfl
          have hp1 := pick_lt ns[k] hpos
          obtain ⟨⟨q, pq⟩, hpq⟩ : ∃ p, ov[pickAt ns[k] ov.length]? = some p := ⟨_, List.getElem?_eq_getElem hp1⟩
          obtain ⟨_, bm, om, _, lm, hem, hcm, hnm, hm0, hm1, hm2⟩ := hsm
          cases hem
          obtain ⟨hAo, hcA, hsA⟩ := slt_at (i := ((pickAt ns[k] ov.length : Nat) : Int)) hm1 hm2 hpq rfl
          obtain ⟨hqi, hfit⟩ := hov _ (List.mem_of_getElem? hpq)
          simp only at hqi hfit
          have htl := take_len s q
          have hkk : k ≤ 60 := by omega
          refine gc_skip ?_
          refine gk_then ?_
          refine gc_seq ?_
          refine gc_block ?_
          refine gc_seq ?_
          refine gc_seqr [(.mv, 0), (.mv, 1), (.mv, 2)] rfl ?_
          refine gr_rd rfl rfl rfl (rd_indexS Tryd.underlying23 Tryd.sizeOf3 rfl rfl hAi (by omega) (by omega)) ?_
          refine gr_rd rfl rfl rfl (rd_load1 Tryd.to3 rfl (hca.mono (Gh.le_refl _) (fun x hx => by cases hx)) (by have := hsa 0 _ rfl; simpa using this)) ?_
          refine gr_rd rfl rfl rfl (rd_assign rfl) ?_
          refine gr_nil ?_
          refine gk_then ?_
          refine gc_seqr [(.mv, 0), (.mv, 1), (.mv, 2), (.mv, 3), (.mv, 4), (.mv, 5), (.mv, 6), (.mv, 7), (.mv, 8), (.mv, 9), (.mv, 10), (.nm, 11)] rfl ?_
          refine gr_rd rfl rfl rfl (rd_move rfl) ?_
          refine gr_rd rfl rfl rfl (rd_move rfl) ?_
          refine gr_rd rfl rfl rfl (rd_move rfl) ?_
          (first | refine gr_rd rfl rfl rfl (rd_convInt Tryd.underlying3 Tryd.underlying39 rfl (IntWalk.u64_in _ (by omega))) ?_ | refine gr_rd rfl rfl rfl (rd_convInt Tryd.underlying3 Tryd.underlying39 rfl rfl) ?_)
          refine gr_rd rfl rfl rfl (rd_move rfl) ?_
          refine gr_rd rfl rfl rfl (rd_lenS Tryd.underlying25 rfl) ?_
          (first | refine gr_rd rfl rfl rfl (rd_convInt Tryd.underlying3 Tryd.underlying39 rfl (IntWalk.u64_in _ (by omega))) ?_ | refine gr_rd rfl rfl rfl (rd_convInt Tryd.underlying3 Tryd.underlying39 rfl rfl) ?_)
          refine gr_rd rfl rfl rfl (rd_rem rfl rfl (by omega) rfl) ?_
          refine gr_rd rfl rfl rfl (rd_convInt Tryd.underlying39 Tryd.underlying3 rfl (pick_wrap _ hpos (by omega))) ?_
          refine gr_rd rfl rfl rfl (rd_indexS Tryd.underlying25 Tryd.sizeOf38 rfl rfl hAo (by omega) (by omega)) ?_
          refine gr_rd rfl rfl rfl (rd_loadA Tryd.ta38 rfl (hcA.mono (Gh.le_refl _) (fun x hx => by cases hx)) hsA (encOpV_length _)) ?_
          refine gr_nx rfl rfl rfl (nx_call Tryd.en13 rfl (take_cc _ hG _ hR (by omega) q pq (hqi.any) hfit.small)) ?_; rintro v48 H' L' hle ⟨ob2, ow2, ot2, C2, vo2, hR2, hO2, rfl, rfl⟩; refine ⟨trivial, ?_⟩
          refine gr_nil ?_
          refine gk_inBlock ?_
          refine gk_then ?_
          refine gc_seqr [(.mv, 0), (.mv, 1)] rfl ?_
          (first | refine gr_rd rfl rfl rfl (rd_add rfl rfl (IntWalk.i64_in _ (by omega))) ?_ | refine gr_rd rfl rfl rfl (rd_add rfl rfl rfl) ?_)
          refine gr_rd rfl rfl rfl (rd_move rfl) ?_
          refine gr_nil ?_
          refine gk_drop (L' := ((b, .cells [.map (some bo), .map (some bw), .map (some bt)].toArray 83 (0, 0)) :: (bo, ob2) :: (bw, ow2) :: (bt, ot2) :: L)) (by repeat (first | exact List.Sublist.refl _ | exact List.nil_sublist _ | apply List.Sublist.cons_cons | apply List.Sublist.cons | refine List.Sublist.trans ?_ (List.sublist_append_right _ _))) ?_
          refine gk_round ⟨k + 1, (take s q).1, ob2, ow2, ot2⟩ ?_ ⟨by first | assumption | exact Gh.le_trans (by assumption) (by assumption), rfl, hR2, hC.take hfit, by simp only; omega, by simp only; omega⟩ (by repeat (first | exact Subs.nil | refine Subs.cons rfl ?_))
          show ns.length - (k + 1) < ns.length - k
          omega
        · have hsm2 : ∀ p ∈ s.ops, p.2.preds.length ≤ 32 := fun p hp => hR.small p (List.mem_append_left _ hp)
          have hnl := names_length s
          have hwl := waits_length s
          have hk60 : k ≤ 60 := by omega
          refine gc_exit ?_
          refine gk_exit_then ?_
          refine gk_exit_then ?_
          refine gk_here ?_
          refine gk_then ?_
          refine gc_seq ?_
          refine gc_seq ?_
          refine gc_seqr [(.mv, 0), (.nm, 1), (.mv, 2), (.mv, 3)] rfl ?_
          refine gr_rd rfl rfl rfl (rd_move rfl) ?_
          refine gr_nx rfl rfl rfl (nx_call Tryd.en14 rfl (names_cc _ _ hR (by omega))) ?_; rintro v51 H' L' hle ⟨Cn, hOn, rfl, rfl⟩; refine ⟨trivial, ?_⟩
          obtain ⟨An, cn, rfl, hcn⟩ := hOn.slice
          obtain ⟨_, bn, on, cn2, ln, hne, hcn2, hnn, hn0, hn1, hn2⟩ := (Ow.slT (H := H1) (L := (Cn ++ ((b, .cells [.map (some bo), .map (some bw), .map (some bt)].toArray 83 (0, 0)) :: (bo, ob) :: (bw, ow) :: (bt, ot) :: L))) (xs := names s) encId_length hOn rfl (by omega) (by intro x hx; simp [hx]))
          cases hne
          refine gr_rd rfl rfl rfl (rd_lenS Tryd.underlying29 rfl) ?_
          refine gr_rd rfl rfl rfl (rd_move rfl) ?_
          refine gr_nil ?_
          refine gk_then ?_
          refine gc_block ?_
          refine gc_loop (fun t : Nat => [(6, pt b 0), (51, .slice An (names s).length cn), (52, i64 (names s).length), (53, i64 t)]) (fun t H2 L2 => H1 = H2 ∧ (Cn ++ ((b, .cells [.map (some bo), .map (some bw), .map (some bt)].toArray 83 (0, 0)) :: (bo, ob) :: (bw, ow) :: (bt, ot) :: L)) = L2 ∧ t ≤ (names s).length) (fun t => (names s).length - t) (0) ?_ (by repeat (first | exact Subs.nil | refine Subs.cons rfl ?_)) ?_
          · exact ⟨rfl, rfl, Nat.zero_le _⟩
          · rintro k2 H2 L2 ⟨rfl, rfl, hk2⟩
            show GC _ _ _ _ [(6, pt b 0), (51, .slice An (names s).length cn), (52, i64 (names s).length), (53, i64 k2)] H1 (Cn ++ ((b, .cells [.map (some bo), .map (some bw), .map (some bt)].toArray 83 (0, 0)) :: (bo, ob) :: (bw, ow) :: (bt, ot) :: L))
            refine gc_seq ?_
            refine gc_seqr [(.mv, 0)] rfl ?_
            refine gr_rd rfl rfl rfl (rd_lss rfl rfl) ?_
            refine gr_nil ?_
            refine gk_then ?_
            refine gc_seq ?_
            refine gc_cond rfl (fun hcR13 => ?_) (fun hcR13 => ?_)
            · have hlt : k2 < (names s).length := by simpa using hcR13
              obtain ⟨hAe, hca, hsa⟩ := ids_at2 (i := (k2 : Int)) hn1 hn2 hlt rfl
              obtain ⟨nk, hnk⟩ : ∃ nk, ((names s).getD k2 Nm.zero) = nk := ⟨_, rfl⟩
              rw [hnk] at hsa
              have hhas : has s.ops nk = true := by
                rw [← hnk]
                exact names_has.1 (List.mem_of_getElem? (getD_at hlt))
              obtain ⟨oq, hgo⟩ := Option.isSome_iff_exists.1 (show (Tr.get s.ops nk).isSome = true by rw [get_isSome]; exact hhas)
              obtain ⟨hname, hgood, hfit, hwh, hdep, hnw⟩ := hC.get hgo
              have hql := good_small hgood
              refine gc_skip ?_
              refine gk_then ?_
              refine gc_seq ?_
              refine gc_block ?_
              refine gc_seq ?_
              refine gc_seqr [(.mv, 0), (.mv, 1), (.nm, 2), (.nm, 3)] rfl ?_
              refine gr_rd rfl rfl rfl (rd_indexS Tryd.underlying29 Tryd.sizeOf34 rfl rfl hAe (by omega) (by omega)) ?_
              refine gr_rd rfl rfl rfl (rd_loadA Tryd.ta34 rfl hca hsa (encId_length _)) ?_
              refine gr_nx rfl rfl rfl (nx_alloc Tryd.zeroValue34 rfl) ?_; rintro _ _ _ _ ⟨b10, rfl, rfl, rfl⟩; refine ⟨trivial, ?_⟩
              refine gr_nx0 rfl rfl (nx_store (vs := encId nk) Tryd.sizeOf34 rfl rfl rfl (encId_length _) (by repeat (first | exact Upd.here | exact Upd.appl (by assumption) | apply Upd.there | apply Upd.app)) (by simp) (encId_ones _)) ?_; rintro _ _ _ _ ⟨rfl, rfl, rfl⟩; refine ⟨trivial, ?_⟩
              rw [wr_all (by simp)]
              refine gr_nil ?_
              refine gk_then ?_
              refine gc_seq ?_
              refine gc_seqr [(.mv, 0), (.mv, 1), (.nm, 2), (.mv, 3), (.mv, 4), (.mv, 5), (.nm, 6), (.nm, 7), (.mv, 8)] rfl ?_
              refine gr_rd rfl rfl rfl (rd_move rfl) ?_
              refine gr_rd rfl rfl rfl (rd_loadA Tryd.ta34 rfl (Cells.own (l := encId nk) (T := 34) (z := (0, 0)) (by simp [baseL])) (Seg.all _) (encId_length _)) ?_
              refine gr_nx rfl rfl rfl (nx_call Tryd.en15 rfl (get_cc _ _ (hR.view (b := b) (bo := bo) (bw := bw) (bt := bt) (Cells.own (l := [.map (some bo), .map (some bw), .map (some bt)]) (T := 83) (z := (0, 0)) (by simp )) (by simp) (by simp) (by simp)) hsm2 nk)) ?_; rintro v60 H' L' hle ⟨C7, u7, rfl, hO7, rfl, rfl⟩; refine ⟨trivial, ?_⟩
              rw [hgo, Option.getD_some] at hO7
              rw [hgo, hhas, Option.getD_some]
              obtain ⟨a7, c7, rfl, hc7⟩ := hO7.slice
              refine gr_rd rfl rfl rfl (rd_move rfl) ?_
              refine gr_rd rfl rfl rfl (rd_extract rfl rfl) ?_
              refine gr_rd rfl rfl rfl (rd_extract rfl rfl) ?_
              refine gr_nx rfl rfl rfl (nx_alloc Tryd.zeroValue38 rfl) ?_; rintro _ _ _ _ ⟨b11, rfl, rfl, rfl⟩; refine ⟨trivial, ?_⟩
              refine gr_nx0 rfl rfl (nx_store (vs := encOp oq (.slice a7 oq.preds.length c7)) Tryd.sizeOf38 rfl rfl rfl (encOp_length _ _) (by repeat (first | exact Upd.here | exact Upd.appl (by assumption) | apply Upd.there | apply Upd.app)) (by simp) (encOp_ones _ rfl)) ?_; rintro _ _ _ _ ⟨rfl, rfl, rfl⟩; refine ⟨trivial, ?_⟩
              rw [wr_all (by simp)]
              refine gr_rd rfl rfl rfl (rd_assign rfl) ?_
              refine gr_nil ?_
              refine gk_then ?_
              refine gc_seq ?_
              refine gc_seqr [(.mv, 0)] rfl ?_
              refine gr_rd rfl rfl rfl (rd_assign rfl) ?_
              refine gr_nil ?_
              refine gk_then ?_
              refine gc_seq ?_
              refine gc_seq ?_
              refine gc_seqr [(.mv, 0), (.mv, 1), (.mv, 2), (.mv, 3)] rfl ?_
              refine gr_perm (L' := ((b, .cells [.map (some bo), .map (some bw), .map (some bt)].toArray 83 (0, 0)) :: (bo, ob) :: (bw, ow) :: (bt, ot) :: ((b11, .cells (encOp oq (.slice a7 oq.preds.length c7)).toArray 38 (0, 0)) :: (C7 ++ ((b10, .cells (encId nk).toArray 34 (0, 0)) :: (Cn ++ L)))))) (by haveI : DecidableEq (Nat × Obj) := fun _ _ => Classical.propDecidable _; rw [List.perm_iff_count]; intro a; simp only [List.count_append, List.count_cons, List.count_nil]; ac_rfl) ?_
              refine gr_rd rfl rfl rfl (rd_fieldAddr Tryd.fa38_3 rfl) ?_
              refine gr_rd rfl rfl rfl (rd_load1 Tryd.to29 rfl (Cells.own (l := encOp oq (.slice a7 oq.preds.length c7)) (T := 38) (z := (0, 0)) (by simp [baseL])) (encOp_37 _ _)) ?_
              refine gr_rd rfl rfl rfl (rd_lenS Tryd.underlying29 rfl) ?_
              obtain ⟨_, b7, o7, c7b, l7, he7, hc7b, hn7, h70, h71, h72⟩ := (Ow.slT (H := H1) (L := ((b, .cells [.map (some bo), .map (some bw), .map (some bt)].toArray 83 (0, 0)) :: (bo, ob) :: (bw, ow) :: (bt, ot) :: ((b11, .cells (encOp oq (.slice a7 oq.preds.length c7)).toArray 38 (0, 0)) :: (C7 ++ ((b10, .cells (encId nk).toArray 34 (0, 0)) :: (Cn ++ L)))))) (xs := oq.preds) encId_length hO7 rfl (by omega) (by intro x hx; simp [hx]))
              cases he7
              refine gr_rd rfl rfl rfl (rd_move rfl) ?_
              refine gr_nil ?_
              refine gk_then ?_
              refine gc_block ?_
              refine gc_loop (fun t : Nat => [(6, pt b 0), (51, .slice An (names s).length cn), (52, i64 (names s).length), (53, i64 k2), (10, pt b10 0), (11, pt b11 0), (12, i64 0), (13, i64 (deepest s (oq.preds.take t))), (64, .slice a7 oq.preds.length c7), (65, i64 oq.preds.length), (66, i64 t)]) (fun t H2 L2 => H1 = H2 ∧ ((b, .cells [.map (some bo), .map (some bw), .map (some bt)].toArray 83 (0, 0)) :: (bo, ob) :: (bw, ow) :: (bt, ot) :: ((b11, .cells (encOp oq (.slice a7 oq.preds.length c7)).toArray 38 (0, 0)) :: (C7 ++ ((b10, .cells (encId nk).toArray 34 (0, 0)) :: (Cn ++ L))))) = L2 ∧ t ≤ oq.preds.length) (fun t => oq.preds.length - t) (0) ?_ (by repeat (first | exact Subs.nil | refine Subs.cons rfl ?_)) ?_
              · exact ⟨rfl, rfl, Nat.zero_le _⟩
              · rintro j H2 L2 ⟨rfl, rfl, hj⟩
                show GC _ _ _ _ [(6, pt b 0), (51, .slice An (names s).length cn), (52, i64 (names s).length), (53, i64 k2), (10, pt b10 0), (11, pt b11 0), (12, i64 0), (13, i64 (deepest s (oq.preds.take j))), (64, .slice a7 oq.preds.length c7), (65, i64 oq.preds.length), (66, i64 j)] H1 ((b, .cells [.map (some bo), .map (some bw), .map (some bt)].toArray 83 (0, 0)) :: (bo, ob) :: (bw, ow) :: (bt, ot) :: ((b11, .cells (encOp oq (.slice a7 oq.preds.length c7)).toArray 38 (0, 0)) :: (C7 ++ ((b10, .cells (encId nk).toArray 34 (0, 0)) :: (Cn ++ L)))))
                refine gc_seq ?_
                refine gc_seqr [(.mv, 0)] rfl ?_
                refine gr_rd rfl rfl rfl (rd_lss rfl rfl) ?_
                refine gr_nil ?_
                refine gk_then ?_
                refine gc_seq ?_
                refine gc_cond rfl (fun hcR18 => ?_) (fun hcR18 => ?_)
                · have hltj : j < oq.preds.length := by simpa using hcR18
                  obtain ⟨hAj, hcj, hsj⟩ := ids_at2 (i := (j : Int)) h71 h72 hltj rfl
                  have hpjm := List.mem_of_getElem? (getD_at hltj)
                  have hstep := fun oj => deepest_step (s := s) (o := oj) (getD_at hltj)
                  obtain ⟨pj, hpj⟩ : ∃ pj, (oq.preds.getD j Nm.zero) = pj := ⟨_, rfl⟩
                  rw [hpj] at hsj hpjm hstep
                  have hhj := whole_mem.1 hwh pj hpjm
                  obtain ⟨oj, hgj⟩ := Option.isSome_iff_exists.1 (show (Tr.get s.ops pj).isSome = true by rw [get_isSome]; exact hhj)
                  refine gc_skip ?_
                  refine gk_then ?_
                  refine gc_seq ?_
                  refine gc_block ?_
                  refine gc_seq ?_
                  refine gc_seqr [(.mv, 0), (.mv, 1), (.nm, 2), (.nm, 3)] rfl ?_
                  refine gr_rd rfl rfl rfl (rd_indexS Tryd.underlying29 Tryd.sizeOf34 rfl rfl hAj (by omega) (by omega)) ?_
                  refine gr_rd rfl rfl rfl (rd_loadA Tryd.ta34 rfl hcj hsj (encId_length _)) ?_
                  refine gr_nx rfl rfl rfl (nx_alloc Tryd.zeroValue34 rfl) ?_; rintro _ _ _ _ ⟨b15, rfl, rfl, rfl⟩; refine ⟨trivial, ?_⟩
                  refine gr_nx0 rfl rfl (nx_store (vs := encId pj) Tryd.sizeOf34 rfl rfl rfl (encId_length _) (by repeat (first | exact Upd.here | exact Upd.appl (by assumption) | apply Upd.there | apply Upd.app)) (by simp) (encId_ones _)) ?_; rintro _ _ _ _ ⟨rfl, rfl, rfl⟩; refine ⟨trivial, ?_⟩
                  rw [wr_all (by simp)]
                  refine gr_nil ?_
                  refine gk_then ?_
                  refine gc_seq ?_
                  refine gc_seqr [(.mv, 0), (.mv, 1), (.nm, 2), (.mv, 3), (.mv, 4), (.mv, 5), (.nm, 6), (.nm, 7), (.mv, 8)] rfl ?_
                  refine gr_rd rfl rfl rfl (rd_move rfl) ?_
                  refine gr_rd rfl rfl rfl (rd_loadA Tryd.ta34 rfl (Cells.own (l := encId pj) (T := 34) (z := (0, 0)) (by simp [baseL])) (Seg.all _) (encId_length _)) ?_
                  refine gr_nx rfl rfl rfl (nx_call Tryd.en15 rfl (get_cc _ _ (hR.view (b := b) (bo := bo) (bw := bw) (bt := bt) (Cells.own (l := [.map (some bo), .map (some bw), .map (some bt)]) (T := 83) (z := (0, 0)) (by simp )) (by simp) (by simp) (by simp)) hsm2 pj)) ?_; rintro v73 H' L' hle ⟨C8, u8, rfl, hO8, rfl, rfl⟩; refine ⟨trivial, ?_⟩
                  rw [hgj, Option.getD_some] at hO8
                  rw [hgj, hhj, Option.getD_some]
                  refine gr_rd rfl rfl rfl (rd_move rfl) ?_
                  refine gr_rd rfl rfl rfl (rd_extract rfl rfl) ?_
                  refine gr_rd rfl rfl rfl (rd_extract rfl rfl) ?_
                  refine gr_nx rfl rfl rfl (nx_alloc Tryd.zeroValue38 rfl) ?_; rintro _ _ _ _ ⟨b16, rfl, rfl, rfl⟩; refine ⟨trivial, ?_⟩
                  refine gr_nx0 rfl rfl (nx_store (vs := encOp oj u8) Tryd.sizeOf38 rfl rfl rfl (encOp_length _ _) (by repeat (first | exact Upd.here | exact Upd.appl (by assumption) | apply Upd.there | apply Upd.app)) (by simp) (encOp_ones _ hO8.one)) ?_; rintro _ _ _ _ ⟨rfl, rfl, rfl⟩; refine ⟨trivial, ?_⟩
                  rw [wr_all (by simp)]
                  refine gr_rd rfl rfl rfl (rd_assign rfl) ?_
                  refine gr_nil ?_
                  refine gk_then ?_
                  refine gc_seq ?_
                  refine gc_seq ?_
                  refine gc_seqr [(.mv, 0), (.mv, 1)] rfl ?_
                  refine gr_rd rfl rfl rfl (rd_move rfl) ?_
                  refine gr_rd rfl rfl rfl (rd_neq rfl rfl) ?_
                  refine gr_nil ?_
                  refine gk_then ?_
                  refine gc_no rfl ?_
                  refine gc_skip ?_
                  refine gk_then ?_
                  refine gc_seqr [(.mv, 0), (.mv, 1), (.mv, 2), (.mv, 3), (.mv, 4)] rfl ?_
                  refine gr_rd rfl rfl rfl (rd_move rfl) ?_
                  refine gr_rd rfl rfl rfl (rd_fieldAddr Tryd.fa38_2 rfl) ?_
                  refine gr_rd rfl rfl rfl (rd_load1 Tryd.to3 rfl (Cells.own (l := encOp oj u8) (T := 38) (z := (0, 0)) (by simp [baseL])) (encOp_36 _ _)) ?_
                  refine gr_rd rfl rfl rfl (rd_max2 rfl rfl rfl) ?_
                  rw [imax_eq, ← hstep oj hgj]
                  refine gr_rd rfl rfl rfl (rd_assign rfl) ?_
                  refine gr_nil ?_
                  refine gk_inBlock ?_
                  refine gk_then ?_
                  refine gc_seqr [(.mv, 0), (.mv, 1)] rfl ?_
                  (first | refine gr_rd rfl rfl rfl (rd_add rfl rfl (IntWalk.i64_in _ (by omega))) ?_ | refine gr_rd rfl rfl rfl (rd_add rfl rfl rfl) ?_)
                  refine gr_rd rfl rfl rfl (rd_move rfl) ?_
                  refine gr_nil ?_
                  refine gk_drop (L' := ((b, .cells [.map (some bo), .map (some bw), .map (some bt)].toArray 83 (0, 0)) :: (bo, ob) :: (bw, ow) :: (bt, ot) :: ((b11, .cells (encOp oq (.slice a7 oq.preds.length c7)).toArray 38 (0, 0)) :: (C7 ++ ((b10, .cells (encId nk).toArray 34 (0, 0)) :: (Cn ++ L)))))) (by repeat (first | exact List.Sublist.refl _ | exact List.nil_sublist _ | apply List.Sublist.cons_cons | apply List.Sublist.cons | refine List.Sublist.trans ?_ (List.sublist_append_right _ _))) ?_
                  refine gk_round (j + 1) ?_ ⟨rfl, rfl, by omega⟩ (by repeat (first | exact Subs.nil | refine Subs.cons rfl ?_))
                  show oq.preds.length - (j + 1) < oq.preds.length - j
                  omega
                · have hje : j = oq.preds.length := by simp at hcR18; omega
                  subst hje
                  rw [List.take_length]
                  refine gc_exit ?_
                  refine gk_exit_then ?_
                  refine gk_exit_then ?_
                  refine gk_here ?_
                  refine gk_then ?_
                  refine gc_seq ?_
                  refine gc_draw Tryd.mixed [(.mv, 0), (.mv, 1), (.mv, 2), (.mv, 3), (.mv, 4), (.mv, 5), (.mv, 6), (.mv, 7), (.mv, 8), (.mv, 9), (.mv, 10), (.mv, 12), (.nm, 11), (.mv, 13), (.mv, 14), (.mv, 15), (.mv, 16), (.mv, 18), (.nm, 17), (.fin, 19), (.fin, 20)] (by decide +kernel) _ (List.Sublist.refl _) ?_
                  refine gr_rd rfl rfl rfl (rd_move rfl) ?_
                  refine gr_rd rfl rfl rfl (rd_neq rfl rfl) ?_
                  refine gr_rd rfl rfl rfl (rd_move rfl) ?_
                  refine gr_rd rfl rfl rfl (rd_fieldAddr Tryd.fa38_2 rfl) ?_
                  refine gr_rd rfl rfl rfl (rd_load1 Tryd.to3 rfl (Cells.own (l := encOp oq (.slice a7 oq.preds.length c7)) (T := 38) (z := (0, 0)) (by simp [baseL])) (encOp_36 _ _)) ?_
                  refine gr_rd rfl rfl rfl (rd_move rfl) ?_
                  refine gr_rd rfl rfl rfl (rd_add rfl rfl (show IntKind.i64.wrap (deepest s oq.preds + 1) = wrap (deepest s oq.preds + 1) from IntKind.wrap_i64 _)) ?_
                  refine gr_rd rfl rfl rfl (rd_neq rfl rfl) ?_
                  rw [show (oq.depth != wrap (deepest s oq.preds + 1)) = false from by rw [hdep, depthOf]; exact bne_self_eq_false _]
                  (first | refine gr_rd rfl rfl rfl (rd_pick_t rfl rfl) ?_ | refine gr_rd rfl rfl rfl (rd_pick_f rfl rfl) ?_)
                  refine gr_rd rfl rfl rfl (rd_move rfl) ?_
                  refine gr_rd rfl rfl rfl (rd_loadA Tryd.ta38 rfl (Cells.own (l := encOp oq (.slice a7 oq.preds.length c7)) (T := 38) (z := (0, 0)) (by simp [baseL])) (Seg.all _) (encOp_length _ _)) ?_
                  refine gr_rd rfl rfl rfl (rd_loadA Tryd.ta34 rfl (Cells.own (l := encId nk) (T := 34) (z := (0, 0)) (by simp [baseL])) (Seg.all _) (encId_length _)) ?_
                  refine gr_nx rfl rfl rfl (nx_call Tryd.en16 rfl (rname_cc _ _ oq _ (Ow.slT encId_length hO7 rfl (by omega) (by intro x hx; simp [hx])) hfit.small)) ?_; rintro v94 H' L' hle ⟨rfl, rfl, rfl⟩; refine ⟨⟨(by first | exact Gh.le_refl _ | assumption | exact Gh.le_trans (by assumption) (by assumption)), (by repeat (first | exact List.Sublist.refl _ | exact List.nil_sublist _ | apply List.Sublist.cons_cons | apply List.Sublist.cons | apply List.Sublist.append (List.Sublist.refl _) | refine List.Sublist.trans ?_ (List.sublist_append_right _ _)))⟩, ?_⟩
                  rw [hname]
                  refine gr_rd rfl rfl rfl (rd_arrNe Tryd.tb34 (by first | exact Nm.len _ | assumption | simp) (by first | exact Nm.len _ | assumption | simp) rfl rfl) ?_
                  rw [bne_self_eq_false]
                  (first | refine gr_rd rfl rfl rfl (rd_pick_t rfl rfl) ?_ | refine gr_rd rfl rfl rfl (rd_pick_f rfl rfl) ?_)
                  refine gr_rd rfl rfl rfl (rd_move rfl) ?_
                  refine gr_rd rfl rfl rfl (rd_move rfl) ?_
                  refine gr_rd rfl rfl rfl (rd_loadA Tryd.ta34 rfl (Cells.own (l := encId nk) (T := 34) (z := (0, 0)) (by simp [baseL])) (Seg.all _) (encId_length _)) ?_
                  refine gr_nx rfl rfl rfl (nx_call Tryd.en18 rfl (waits_cc _ _ hR (by omega))) ?_; rintro v100 H' L' hle ⟨C9, hO9, rfl, rfl⟩; refine ⟨⟨(by first | exact Gh.le_refl _ | assumption | exact Gh.le_trans (by assumption) (by assumption)), (by repeat (first | exact List.Sublist.refl _ | exact List.nil_sublist _ | apply List.Sublist.cons_cons | apply List.Sublist.cons | apply List.Sublist.append (List.Sublist.refl _) | refine List.Sublist.trans ?_ (List.sublist_append_right _ _)))⟩, ?_⟩
                  refine gr_fin rfl rfl rfl (nx_call Tryd.en17 rfl (in_cc _ _ _ (waits s) nk (Ow.slT encId_length hO9 rfl (by omega) (by intro x hx; simp [hx])))) ?_; rintro v102 H' L' hle ⟨rfl, rfl, rfl⟩
                  rw [show (waits s).contains nk = false from by simpa using hnw]
                  (first | (refine gr_fin rfl rfl rfl (Rd.nx (rd_pick_t rfl rfl)) ?_; rintro _ _ _ _ ⟨rfl, rfl, rfl⟩) | (refine gr_fin rfl rfl rfl (Rd.nx (rd_pick_f rfl rfl)) ?_; rintro _ _ _ _ ⟨rfl, rfl, rfl⟩))
                  refine gr_nil ?_
                  refine gk_then ?_
                  refine gc_no rfl ?_
                  refine gc_skip ?_
                  refine gk_inBlock ?_
                  refine gk_then ?_
                  refine gc_seqr [(.mv, 0), (.mv, 1)] rfl ?_
                  (first | refine gr_rd rfl rfl rfl (rd_add rfl rfl (IntWalk.i64_in _ (by omega))) ?_ | refine gr_rd rfl rfl rfl (rd_add rfl rfl rfl) ?_)
                  refine gr_rd rfl rfl rfl (rd_move rfl) ?_
                  refine gr_nil ?_
                  refine gk_perm (L' := (C9 ++ ((b11, .cells (encOp oq (.slice a7 oq.preds.length c7)).toArray 38 (0, 0)) :: (C7 ++ [(b10, .cells (encId nk).toArray 34 (0, 0))]))) ++ (Cn ++ ((b, .cells [.map (some bo), .map (some bw), .map (some bt)].toArray 83 (0, 0)) :: (bo, ob) :: (bw, ow) :: (bt, ot) :: L))) (by haveI : DecidableEq (Nat × Obj) := fun _ _ => Classical.propDecidable _; rw [List.perm_iff_count]; intro a; simp only [List.count_append, List.count_cons, List.count_nil]; ac_rfl) ?_
                  refine gk_drop (L' := (Cn ++ ((b, .cells [.map (some bo), .map (some bw), .map (some bt)].toArray 83 (0, 0)) :: (bo, ob) :: (bw, ow) :: (bt, ot) :: L))) (List.sublist_append_right _ _) ?_
                  refine gk_round (k2 + 1) ?_ ⟨rfl, rfl, by omega⟩ (by repeat (first | exact Subs.nil | refine Subs.cons rfl ?_))
                  show (names s).length - (k2 + 1) < (names s).length - k2
                  omega
            · skip
              refine gc_exit ?_
              refine gk_exit_then ?_
              refine gk_exit_then ?_
              refine gk_here ?_
              refine gk_then ?_
              refine gc_seq ?_
              refine gc_seqr [(.mv, 0)] rfl ?_
              refine gr_rd rfl rfl rfl (rd_assign rfl) ?_
              refine gr_nil ?_
              refine gk_then ?_
              refine gc_ret ?_
              refine gk_drop (L' := L) (by repeat (first | exact List.Sublist.refl _ | exact List.nil_sublist _ | apply List.Sublist.cons_cons | apply List.Sublist.cons | refine List.Sublist.trans ?_ (List.sublist_append_right _ _))) ?_
              refine gk_result (L' := L) (.inl rfl) _ (res1 rfl rfl) (List.Sublist.refl _) (by first | exact Gh.le_refl _ | assumption | exact Gh.le_trans (by assumption) (by assumption)) ?_
              exact ⟨rfl, rfl⟩
end Go.Proofs.YtfhldfjknagidaaDoor
