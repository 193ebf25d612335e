/-
  Walks: what is handed in stays, and is not kept; what is answered is new memory.
-/
import Derived.Test.YtfhldfjknagidaaDoorVKs23
import Derived.Test.YtfhldfjknagidaaDoorVKu
set_option linter.unusedSimpArgs false
set_option linter.unusedVariables false
set_option linter.unnecessarySimpa false
set_option linter.all false
namespace Go.Proofs.YtfhldfjknagidaaDoor
open Go.VK Go.Tr
set_option maxRecDepth 20000
attribute [local irreducible] Go.Tr.sha
/-- Two sets, the program's and the reference's, behind k operations. -/
structure TK where
  k : Nat
  s : DSet
  ob : Obj
  ow : Obj
  ot : Obj
  v0 : Value
  v1 : Value
  v2 : Value
  v3 : Value
  ov : List (POp × Value)
  wv : List (POp × Value)
  C0 : Chunks
  C1 : Chunks
  C2 : Chunks
  C3 : Chunks
structure BS where
  j : Nat
  C : Chunks
  cs : List Value
structure LS3 where
  i : Nat
  C0 : Chunks
  c0 : List Value
  C1 : Chunks
  c1 : List Value
  C2 : Chunks
  c2 : List Value
theorem pick3 {e : TypeId} {W K0 K1 K2 : Chunks} {a0 a1 a2 : Option Addr} {n0 n1 n2 c0 c1 c2 : Nat} {l0 l1 l2 : List Value} (h0 : Ow e 32 K0 (.slice a0 n0 c0) n0 l0) (h1 : Ow e 32 K1 (.slice a1 n1 c1) n1 l1) (h2 : Ow e 32 K2 (.slice a2 n2 c2) n2 l2) (b0 : AllB l0) (b1 : AllB l1) (b2 : AllB l2) {i : Nat} (hi : i < 3) :
    ∃ (a : Option Addr) (n c : Nat) (K : Chunks) (l : List Value) (R : Chunks), [Value.slice a0 n0 c0, .slice a1 n1 c1, .slice a2 n2 c2][i]? = some (.slice a n c) ∧ Ow e 32 K (.slice a n c) n l ∧ AllB l ∧ (K0 ++ (K1 ++ (K2 ++ W))).Perm (K ++ R) ∧ (n = n0 ∨ n = n1 ∨ n = n2) ∧
      ∀ K' l', Ow e 32 K' (.slice a n c) n l' → AllB l' → ∃ J0 J1 J2 m0 m1 m2, (K' ++ R).Perm (J0 ++ (J1 ++ (J2 ++ W))) ∧ Ow e 32 J0 (.slice a0 n0 c0) n0 m0 ∧ Ow e 32 J1 (.slice a1 n1 c1) n1 m1 ∧ Ow e 32 J2 (.slice a2 n2 c2) n2 m2 ∧ AllB m0 ∧ AllB m1 ∧ AllB m2 := by
  have hc : i = 0 ∨ i = 1 ∨ i = 2 := by omega
  rcases hc with rfl | rfl | rfl
  · exact ⟨a0, n0, c0, K0, l0, K1 ++ (K2 ++ W), rfl, h0, b0, List.Perm.refl _, .inl rfl, fun K' l' h hb => ⟨K', K1, K2, l', l1, l2, List.Perm.refl _, h, h1, h2, hb, b1, b2⟩⟩
  · exact ⟨a1, n1, c1, K1, l1, K0 ++ (K2 ++ W), rfl, h1, b1, (by haveI : DecidableEq (Nat × Obj) := fun _ _ => Classical.propDecidable _; rw [List.perm_iff_count]; intro a; simp only [List.count_append, List.count_cons, List.count_nil]; ac_rfl), .inr (.inl rfl), fun K' l' h hb => ⟨K0, K', K2, l0, l', l2, (by haveI : DecidableEq (Nat × Obj) := fun _ _ => Classical.propDecidable _; rw [List.perm_iff_count]; intro a; simp only [List.count_append, List.count_cons, List.count_nil]; ac_rfl), h0, h, h2, b0, hb, b2⟩⟩
  · exact ⟨a2, n2, c2, K2, l2, K0 ++ (K1 ++ W), rfl, h2, b2, (by haveI : DecidableEq (Nat × Obj) := fun _ _ => Classical.propDecidable _; rw [List.perm_iff_count]; intro a; simp only [List.count_append, List.count_cons, List.count_nil]; ac_rfl), .inr (.inr rfl), fun K' l' h hb => ⟨K0, K1, K', l0, l1, l', (by haveI : DecidableEq (Nat × Obj) := fun _ _ => Classical.propDecidable _; rw [List.perm_iff_count]; intro a; simp only [List.count_append, List.count_cons, List.count_nil]; ac_rfl), h0, h1, h, b0, b1, hb⟩⟩

set_option maxHeartbeats 4000000 in
theorem dagKeeps_cc (H : Gh) (hG : Glob H) (L : Chunks) (v : Value) (xs : List (Tr.Make × Value)) (hM : SlT encMakeV 78 H [] v xs) (hMp : ∀ p ∈ xs, Ids H [] p.2 p.1.op.preds) (hMr : ∀ p ∈ xs, RngM p.1) :
    CC Tryd.prog 4 #[v] H L (fun u H' L' => u = .bool true ∧ L = L') := by
  have hLE := Gh.le_refl H
  refine cc_of Tryd.func4 rfl (Nat.le_of_ble_eq_true rfl) ?_
  simp only [Tryd.ntmps4]
  refine gc_seq ?_
  refine gc_seqr [(.mv, 0)] rfl ?_
  refine gr_rd rfl rfl rfl (rd_assign rfl) ?_
  refine gr_nil ?_
  refine gk_then ?_
  refine gc_seq ?_
  refine gc_seq ?_
  refine gc_seqr [(.nm, 0), (.mv, 1)] rfl ?_
  refine gr_nx rfl rfl rfl (nx_call Tryd.en10 rfl (alive_cc _ hG _)) ?_; rintro v17 H' L' hle ⟨rfl, rfl⟩; refine ⟨trivial, ?_⟩
  have hLE := Gh.le_trans hLE hle
  replace hG := hG.mono hle
  replace hM := hM.up hle
  replace hMp : ∀ p ∈ xs, Ids _ [] p.2 p.1.op.preds := fun p hp => (hMp p hp).up hle
  refine gr_rd rfl rfl rfl (rd_not rfl) ?_
  refine gr_nil ?_
  refine gk_then ?_
  refine gc_no rfl ?_
  refine gc_skip ?_
  refine gk_then ?_
  refine gc_seq ?_
  refine gc_seqr [(.nm, 0), (.mv, 1), (.nm, 2), (.mv, 3), (.mv, 4)] rfl ?_
  refine gr_nx rfl rfl rfl (nx_call Tryd.en12 rfl (new_cc _ _)) ?_; rintro v19 H' L' hle ⟨b, bo, bw, bt, ob0, ow0, ot0, rfl, hR0, rfl, rfl⟩; refine ⟨trivial, ?_⟩
  refine gr_rd rfl rfl rfl (rd_build Tryd.bt48 (ps := []) (l := [nilS, nilS, nilS, nilS]) rfl rfl) ?_
  refine gr_nx rfl rfl rfl (nx_box (l := [nilS, nilS, nilS, nilS]) rfl rfl) ?_; rintro _ _ _ _ ⟨br, rfl, rfl, rfl⟩; refine ⟨trivial, ?_⟩
  refine gr_rd rfl rfl rfl (rd_assign rfl) ?_
  refine gr_rd rfl rfl rfl (rd_assign rfl) ?_
  refine gr_nil ?_
  refine gk_then ?_
  refine gc_seq ?_
  refine gc_seq ?_
  refine gc_seqr [(.mv, 0), (.nm, 1), (.mv, 2), (.mv, 3)] rfl ?_
  refine gr_rd rfl rfl rfl (rd_move rfl) ?_
  refine gr_nx rfl rfl rfl (nx_call Tryd.en11 rfl (made_cc _ _ _ xs hM hMp hMr)) ?_; rintro v23 H' L' hle ⟨ov, Cm, hOm, hmade, hov, hol, rfl⟩; refine ⟨trivial, ?_⟩
  obtain ⟨Ao, co, rfl, hco⟩ := hOm.slice
  have hLE := Gh.le_trans hLE hle
  replace hG := hG.mono hle
  replace hR0 := hR0.up hle
  refine gr_sealOw encOpV_length hOm rfl (by omega) (fun HH hle hsm => ?_)
  have hLE := Gh.le_trans hLE hle
  replace hG := hG.mono hle
  replace hR0 := hR0.up hle
  replace hov : ∀ p ∈ ov, Ids HH [] p.2 p.1.preds ∧ FitO p.1 := fun p hp => ⟨(hov p hp).1.up hle, (hov p hp).2⟩
  refine gr_perm (L' := ((b, .cells [.map (some bo), .map (some bw), .map (some bt)].toArray 83 (0, 0)) :: (bo, ob0) :: (bw, ow0) :: (bt, ot0) :: ((br, .cells [nilS, nilS, nilS, nilS].toArray 48 (0, 0)) :: ([] ++ ([] ++ ([] ++ ([] ++ L))))))) (by haveI : DecidableEq (Nat × Obj) := fun _ _ => Classical.propDecidable _; rw [List.perm_iff_count]; intro a; simp only [List.count_append, List.count_cons, List.count_nil]; ac_rfl) ?_
  refine gr_rd rfl rfl rfl (rd_lenS Tryd.underlying25 rfl) ?_
  refine gr_rd rfl rfl rfl (rd_move rfl) ?_
  refine gr_nil ?_
  refine gk_then ?_
  refine gc_block ?_
  refine gc_loop (fun t : TK => [(3, pt b 0), (4, pt br 0), (23, .slice Ao ov.length co), (24, i64 ov.length), (25, i64 t.k)]) (fun t H1 L1 => HH ≤ H1 ∧ ((b, .cells [.map (some bo), .map (some bw), .map (some bt)].toArray 83 (0, 0)) :: (bo, t.ob) :: (bw, t.ow) :: (bt, t.ot) :: ((br, .cells [t.v0, t.v1, t.v2, t.v3].toArray 48 (0, 0)) :: (t.C0 ++ (t.C1 ++ (t.C2 ++ (t.C3 ++ L)))))) = L1 ∧ DRep H1 t.s t.ob t.ow t.ot ∧ RSet H1 t.s t.v0 t.v1 t.v2 t.v3 t.ov t.wv t.C0 t.C1 t.C2 t.C3 ∧ t.k ≤ ov.length ∧ t.s.ops.length + t.s.wait.length ≤ t.k) (fun t => ov.length - t.k) (⟨0, DSet.empty, ob0, ow0, ot0, nilS, nilS, nilS, nilS, [], [], [], [], [], []⟩) ?_ (by repeat (first | exact Subs.nil | refine Subs.cons rfl ?_)) ?_
  · exact ⟨Gh.le_refl _, rfl, hR0, ⟨Ow.nil, rfl, Ow.nil, rfl, Ow.nil, Ow.nil, (fun p hp => by cases hp), (fun p hp => by cases hp)⟩, Nat.zero_le _, Nat.le_refl _⟩
  · rintro ⟨k, s, ob, ow, ot, v0, v1, v2, v3, sv, sw, C0, C1, C2, C3⟩ H1 L1 ⟨hle, rfl, hR, hS, hk, hsz⟩
    simp only at hR hS hk hsz
    have hLE := Gh.le_trans hLE hle
    replace hG := hG.mono hle
    replace hsm := hsm.up hle
    replace hov : ∀ p ∈ ov, Ids H1 [] p.2 p.1.preds ∧ FitO p.1 := fun p hp => ⟨(hov p hp).1.up hle, (hov p hp).2⟩
    show GC _ _ _ _ [(3, pt b 0), (4, pt br 0), (23, .slice Ao ov.length co), (24, i64 ov.length), (25, i64 k)] H1 ((b, .cells [.map (some bo), .map (some bw), .map (some bt)].toArray 83 (0, 0)) :: (bo, ob) :: (bw, ow) :: (bt, ot) :: ((br, .cells [v0, v1, v2, v3].toArray 48 (0, 0)) :: (C0 ++ (C1 ++ (C2 ++ (C3 ++ L))))))
    refine gc_seq ?_
    refine gc_seqr [(.mv, 0)] rfl ?_
    refine gr_rd rfl rfl rfl (rd_lss rfl rfl) ?_
    refine gr_nil ?_
    refine gk_then ?_
    refine gc_seq ?_
    refine gc_cond rfl (fun hcR5 => ?_) (fun hcR5 => ?_)
    · have hlt : k < ov.length := by simpa using hcR5
      obtain ⟨⟨q, pq⟩, hpq⟩ : ∃ p, ov[k]? = some p := ⟨_, List.getElem?_eq_getElem hlt⟩
      obtain ⟨_, bm, om, _, lm, hem, hcm, hnm, hm0, hm1, hm2⟩ := hsm
      cases hem
      obtain ⟨hAo, hcA, hsA⟩ := slt_at (i := (k : Int)) hm1 hm2 hpq rfl
      obtain ⟨hqi, hfit⟩ := hov _ (List.mem_of_getElem? hpq)
      simp only at hqi hfit
      have hql := hfit.preds
      have htl := take_len s q
      refine gc_skip ?_
      refine gk_then ?_
      refine gc_seq ?_
      refine gc_block ?_
      refine gc_seq ?_
      refine gc_seqr [(.mv, 0), (.mv, 1), (.nm, 2), (.nm, 3)] rfl ?_
      refine gr_rd rfl rfl rfl (rd_indexS Tryd.underlying25 Tryd.sizeOf38 rfl rfl hAo (by omega) (by omega)) ?_
      refine gr_rd rfl rfl rfl (rd_loadA Tryd.ta38 rfl (hcA.mono (Gh.le_refl _) (fun x hx => by cases hx)) hsA (encOpV_length _)) ?_
      refine gr_nx rfl rfl rfl (nx_alloc Tryd.zeroValue38 rfl) ?_; rintro _ _ _ _ ⟨b6, rfl, rfl, rfl⟩; refine ⟨trivial, ?_⟩
      refine gr_nx0 rfl rfl (nx_store (vs := encOpV (q, pq)) Tryd.sizeOf38 rfl rfl rfl (encOp_length _ _) (by repeat (first | exact Upd.here | exact Upd.appl (by assumption) | apply Upd.there | apply Upd.app)) (by simp) (encOp_ones _ hqi.one)) ?_; rintro _ _ _ _ ⟨rfl, rfl, rfl⟩; refine ⟨trivial, ?_⟩
      rw [wr_all (by simp)]
      refine gr_nil ?_
      refine gk_then ?_
      refine gc_seq ?_
      refine gc_seqr [(.mv, 0), (.nm, 1), (.nm, 2)] rfl ?_
      refine gr_rd rfl rfl rfl (rd_loadA Tryd.ta38 rfl (Cells.own (l := encOpV (q, pq)) (T := 38) (z := (0, 0)) (by simp [baseL])) (Seg.all _) (encOp_length _ _)) ?_
      refine gr_nx rfl rfl rfl (nx_alloc Tryd.zeroValue38 rfl) ?_; rintro _ _ _ _ ⟨b7, rfl, rfl, rfl⟩; refine ⟨trivial, ?_⟩
      refine gr_nx0 rfl rfl (nx_store (vs := encOpV (q, pq)) Tryd.sizeOf38 rfl rfl rfl (encOp_length _ _) (by repeat (first | exact Upd.here | exact Upd.appl (by assumption) | apply Upd.there | apply Upd.app)) (by simp) (encOp_ones _ hqi.one)) ?_; rintro _ _ _ _ ⟨rfl, rfl, rfl⟩; refine ⟨trivial, ?_⟩
      rw [wr_all (by simp)]
      refine gr_nil ?_
      refine gk_then ?_
      refine gc_seq ?_
      refine gc_seqr [(.nm, 0), (.mv, 1), (.mv, 2), (.nm, 3), (.mv, 4), (.nm, 5)] rfl ?_
      refine gr_nx rfl rfl rfl (nx_buildSlice (vs := []) Tryd.underlying29 Tryd.sizeOf34 Tryd.zeroValue34 rfl rfl rfl rfl (fun v hv => by cases hv) rfl rfl rfl) ?_; rintro _ _ _ _ ⟨b30, rfl, rfl, rfl⟩; refine ⟨trivial, ?_⟩
      refine gr_rd rfl rfl rfl (rd_fieldAddr Tryd.fa38_3 rfl) ?_
      refine gr_rd rfl rfl rfl (rd_load1 Tryd.to29 rfl (Cells.own (l := encOpV (q, pq)) (T := 38) (z := (0, 0)) (by simp [baseL])) (encOp_37 _ _)) ?_
      refine gr_nx rfl rfl rfl (nx_append (m := q.preds.length) Tryd.app29_29 rfl rfl (Ow.new (cs := []) rfl) (Pick.here (C := [(b30, _)])) (SlT.srcN encId_length encId_ones (hqi.any) rfl) (by omega) (by omega)) ?_; rintro v33 H' L' hle ⟨Cm2, hOm2, _, rfl, rfl⟩; refine ⟨trivial, ?_⟩
      rw [Nat.zero_add, List.nil_append] at hOm2
      obtain ⟨am, cm, rfl, hcm2⟩ := hOm2.slice
      refine gr_rd rfl rfl rfl (rd_fieldAddr Tryd.fa38_3 rfl) ?_
      refine gr_nx0 rfl rfl (nx_store (vs := [.slice am q.preds.length cm]) Tryd.sizeOf29 rfl rfl rfl (rfl) (by repeat (first | exact Upd.here | exact Upd.appl (by assumption) | apply Upd.there | apply Upd.app)) (by simp) (oneCells_of_all rfl)) ?_; rintro _ _ _ _ ⟨rfl, rfl, rfl⟩; refine ⟨trivial, ?_⟩
      rw [show wr (encOpV (q, pq)) 37 [.slice am q.preds.length cm] = encOp q (.slice am q.preds.length cm) from encOp_set_preds q pq _ q.preds]
      refine gr_nil ?_
      refine gk_then ?_
      refine gc_seq ?_
      refine gc_seqr [(.mv, 0), (.mv, 1), (.nm, 2)] rfl ?_
      refine gr_rd rfl rfl rfl (rd_move rfl) ?_
      refine gr_rd rfl rfl rfl (rd_loadA Tryd.ta38 rfl (Cells.own (l := encOp q (.slice am q.preds.length cm)) (T := 38) (z := (0, 0)) (by simp [baseL])) (Seg.all _) (encOp_length _ _)) ?_
      refine gr_perm (L' := ((b, .cells [.map (some bo), .map (some bw), .map (some bt)].toArray 83 (0, 0)) :: (bo, ob) :: (bw, ow) :: (bt, ot) :: ((br, .cells [v0, v1, v2, v3].toArray 48 (0, 0)) :: (C0 ++ (C1 ++ (C2 ++ (C3 ++ (Cm2 ++ ((b7, .cells (encOp q (.slice am q.preds.length cm)).toArray 38 (0, 0)) :: (b6, .cells (encOpV (q, pq)).toArray 38 (0, 0)) :: L))))))))) (by haveI : DecidableEq (Nat × Obj) := fun _ _ => Classical.propDecidable _; rw [List.perm_iff_count]; intro a; simp only [List.count_append, List.count_cons, List.count_nil]; ac_rfl) ?_
      refine gr_nx rfl rfl rfl (nx_call Tryd.en13 rfl (take_cc _ hG _ hR (by omega) q _ (Ow.slT encId_length hOm2 rfl (by omega) (by intro x hx; simp [hx])) hfit.small)) ?_; rintro v37 H' L' hle ⟨ob2, ow2, ot2, Cl, vl, hR2, hOl, rfl, rfl⟩; refine ⟨trivial, ?_⟩
      have hLE := Gh.le_trans hLE hle
      replace hG := hG.mono hle
      replace hqi := hqi.up hle
      replace hS := hS.up hle
      refine gr_nil ?_
      refine gk_then ?_
      refine gc_seq ?_
      refine gc_seqr [(.mv, 0), (.mv, 1), (.nm, 2)] rfl ?_
      refine gr_rd rfl rfl rfl (rd_move rfl) ?_
      refine gr_rd rfl rfl rfl (rd_loadA Tryd.ta38 rfl (Cells.own (l := encOpV (q, pq)) (T := 38) (z := (0, 0)) (by simp [baseL])) (Seg.all _) (encOp_length _ _)) ?_
      refine gr_perm (L' := ((br, .cells [v0, v1, v2, v3].toArray 48 (0, 0)) :: (C0 ++ (C1 ++ (C2 ++ (C3 ++ (Cl ++ ((b, .cells [.map (some bo), .map (some bw), .map (some bt)].toArray 83 (0, 0)) :: (bo, ob2) :: (bw, ow2) :: (bt, ot2) :: (Cm2 ++ ((b7, .cells (encOp q (.slice am q.preds.length cm)).toArray 38 (0, 0)) :: (b6, .cells (encOpV (q, pq)).toArray 38 (0, 0)) :: L)))))))))) (by haveI : DecidableEq (Nat × Obj) := fun _ _ => Classical.propDecidable _; rw [List.perm_iff_count]; intro a; simp only [List.count_append, List.count_cons, List.count_nil]; ac_rfl) ?_
      refine gr_nx rfl rfl rfl (nx_call Tryd.en19 rfl (rtake_cc _ _ hS (by omega) q pq hqi hfit.small)) ?_; rintro v40 H' L' hle ⟨w0, w1, w2, w3, sv', sw', F0, F1, F2, F3, Ck, vk, hS2, hOk, rfl, rfl, rfl⟩; refine ⟨trivial, ?_⟩
      refine gr_perm (L' := (Ck ++ Cl) ++ (Cm2 ++ ((b7, .cells (encOp q (.slice am q.preds.length cm)).toArray 38 (0, 0)) :: (b6, .cells (encOpV (q, pq)).toArray 38 (0, 0)) :: ((b, .cells [.map (some bo), .map (some bw), .map (some bt)].toArray 83 (0, 0)) :: (bo, ob2) :: (bw, ow2) :: (bt, ot2) :: ((br, .cells [w0, w1, w2, w3].toArray 48 (0, 0)) :: (F0 ++ (F1 ++ (F2 ++ (F3 ++ L))))))))) (by haveI : DecidableEq (Nat × Obj) := fun _ _ => Classical.propDecidable _; rw [List.perm_iff_count]; intro a; simp only [List.count_append, List.count_cons, List.count_nil]; ac_rfl) ?_
      refine gr_drop (L' := (Cm2 ++ ((b7, .cells (encOp q (.slice am q.preds.length cm)).toArray 38 (0, 0)) :: (b6, .cells (encOpV (q, pq)).toArray 38 (0, 0)) :: ((b, .cells [.map (some bo), .map (some bw), .map (some bt)].toArray 83 (0, 0)) :: (bo, ob2) :: (bw, ow2) :: (bt, ot2) :: ((br, .cells [w0, w1, w2, w3].toArray 48 (0, 0)) :: (F0 ++ (F1 ++ (F2 ++ (F3 ++ L))))))))) (List.sublist_append_right _ _) ?_
      refine gr_nil ?_
      refine gk_then ?_
      refine gc_seq ?_
      refine gc_seq ?_
      refine gc_seqr [(.mv, 0), (.mv, 1), (.nm, 2), (.mv, 3)] rfl ?_
      refine gr_rd rfl rfl rfl (rd_loadA Tryd.ta38 rfl (Cells.own (l := encOp q (.slice am q.preds.length cm)) (T := 38) (z := (0, 0)) (by simp [baseL])) (Seg.all _) (encOp_length _ _)) ?_
      refine gr_rd rfl rfl rfl (rd_loadA Tryd.ta38 rfl (Cells.own (l := encOpV (q, pq)) (T := 38) (z := (0, 0)) (by simp [baseL])) (Seg.all _) (encOp_length _ _)) ?_
      refine gr_nx rfl rfl rfl (nx_call Tryd.en20 rfl (same_cc _ _ q q _ pq (Ow.slT encId_length hOm2 rfl (by omega) (by intro x hx; simp [hx])) (hqi.any))) ?_; rintro v43 H' L' hle ⟨rfl, rfl, rfl⟩; refine ⟨trivial, ?_⟩
      rw [dec_self q]
      refine gr_rd rfl rfl rfl (rd_not rfl) ?_
      refine gr_nil ?_
      refine gk_then ?_
      refine gc_no rfl ?_
      refine gc_skip ?_
      refine gk_then ?_
      refine gc_seq ?_
      refine gc_seqr [(.mv, 0), (.mv, 1), (.mv, 2), (.mv, 3)] rfl ?_
      refine gr_rd rfl rfl rfl (rd_fieldAddr Tryd.fa38_3 rfl) ?_
      refine gr_rd rfl rfl rfl (rd_load1 Tryd.to29 rfl (Cells.own (l := encOp q (.slice am q.preds.length cm)) (T := 38) (z := (0, 0)) (by simp [baseL])) (encOp_37 _ _)) ?_
      refine gr_rd rfl rfl rfl (rd_lenS Tryd.underlying29 rfl) ?_
      refine gr_rd rfl rfl rfl (rd_move rfl) ?_
      refine gr_nil ?_
      refine gk_then ?_
      refine gc_block ?_
      refine gc_loop (fun t : BS => [(3, pt b 0), (4, pt br 0), (23, .slice Ao ov.length co), (24, i64 ov.length), (25, i64 k), (7, pt b7 0), (47, i64 q.preds.length), (48, i64 t.j)]) (fun t H2 L2 => H' = H2 ∧ t.C ++ ((b7, .cells (encOp q (.slice am q.preds.length cm)).toArray 38 (0, 0)) :: (b6, .cells (encOpV (q, pq)).toArray 38 (0, 0)) :: ((b, .cells [.map (some bo), .map (some bw), .map (some bt)].toArray 83 (0, 0)) :: (bo, ob2) :: (bw, ow2) :: (bt, ot2) :: ((br, .cells [w0, w1, w2, w3].toArray 48 (0, 0)) :: (F0 ++ (F1 ++ (F2 ++ (F3 ++ L))))))) = L2 ∧ Ow 34 32 t.C (.slice am q.preds.length cm) q.preds.length t.cs ∧ AllB t.cs ∧ t.j ≤ q.preds.length) (fun t => q.preds.length - t.j) (⟨0, Cm2, q.preds.flatMap encId⟩) ?_ (by repeat (first | exact Subs.nil | refine Subs.cons rfl ?_)) ?_
      · exact ⟨rfl, rfl, hOm2, AllB.ids _, Nat.zero_le _⟩
      · rintro ⟨j, Cj, cj⟩ H2 L2 ⟨rfl, rfl, hOj, hBj, hj⟩
        simp only at hOj hBj hj
        show GC _ _ _ _ [(3, pt b 0), (4, pt br 0), (23, .slice Ao ov.length co), (24, i64 ov.length), (25, i64 k), (7, pt b7 0), (47, i64 q.preds.length), (48, i64 j)] H' (Cj ++ ((b7, .cells (encOp q (.slice am q.preds.length cm)).toArray 38 (0, 0)) :: (b6, .cells (encOpV (q, pq)).toArray 38 (0, 0)) :: ((b, .cells [.map (some bo), .map (some bw), .map (some bt)].toArray 83 (0, 0)) :: (bo, ob2) :: (bw, ow2) :: (bt, ot2) :: ((br, .cells [w0, w1, w2, w3].toArray 48 (0, 0)) :: (F0 ++ (F1 ++ (F2 ++ (F3 ++ L))))))))
        refine gc_seq ?_
        refine gc_seqr [(.mv, 0)] rfl ?_
        refine gr_rd rfl rfl rfl (rd_lss rfl rfl) ?_
        refine gr_nil ?_
        refine gk_then ?_
        refine gc_seq ?_
        refine gc_cond rfl (fun hcR14 => ?_) (fun hcR14 => ?_)
        · have hltj : j < q.preds.length := by simpa using hcR14
          obtain ⟨bj, lj, uj, hje, hcj, hvj, hlj, hcapj⟩ := hOj.at_byte hBj hltj
          subst hje
          obtain ⟨u2, hu2⟩ := u8_wrap ((uj.toNat : Int) + 1)
          refine gc_skip ?_
          refine gk_then ?_
          refine gc_seq ?_
          refine gc_block ?_
          refine gc_seq ?_
          refine gc_seqr [(.mv, 0), (.mv, 1)] rfl ?_
          refine gr_rd rfl rfl rfl (rd_move rfl) ?_
          refine gr_rd rfl rfl rfl (rd_assign rfl) ?_
          refine gr_nil ?_
          refine gk_then ?_
          refine gc_draw Tryd.mixed [(.mv, 0), (.mv, 1), (.mv, 2), (.mv, 3), (.mv, 4), (.mv, 5), (.mv, 6), (.mv, 7), (.mv, 8), (.fin, 9)] (by decide +kernel) _ (List.Sublist.refl _) ?_
          refine gr_rd rfl rfl rfl (rd_fieldAddr Tryd.fa38_3 rfl) ?_
          refine gr_rd rfl rfl rfl (rd_load1 Tryd.to29 rfl (Cells.own (l := encOp q (.slice (some ⟨bj, 0, none⟩) q.preds.length cm)) (T := 38) (z := (0, 0)) (by simp [baseL])) (encOp_37 _ _)) ?_
          refine gr_rd rfl rfl rfl (rd_move rfl) ?_
          refine gr_rd rfl rfl rfl (rd_indexS Tryd.underlying29 Tryd.sizeOf34 rfl rfl rfl (by omega) (by omega)) ?_
          refine gr_rd rfl rfl rfl (rd_indexA Tryd.underlying34 Tryd.sizeOf5 rfl rfl (by decide) (by decide)) ?_
          refine gr_rd rfl rfl rfl (rd_load1 Tryd.to5 rfl (hcj _ _ (by intro x hx; simp [baseL, hx])) (by simpa using hvj)) ?_
          refine gr_rd rfl rfl rfl (rd_add rfl rfl hu2) ?_
          refine gr_rd rfl rfl rfl (rd_indexS Tryd.underlying29 Tryd.sizeOf34 rfl rfl rfl (by omega) (by omega)) ?_
          refine gr_rd rfl rfl rfl (rd_indexA Tryd.underlying34 Tryd.sizeOf5 rfl rfl (by decide) (by decide)) ?_
          refine gr_fin0 rfl rfl (nx_storeOw (o := j * 32) Tryd.sizeOf5 hOj (by simp [ev]; rfl) rfl hlj rfl Pick.here) ?_; rintro _ H' L' hle2 ⟨rfl, rfl, Cj2, hOj2, rfl⟩
          refine gr_nil ?_
          refine gk_inBlock ?_
          refine gk_then ?_
          refine gc_seqr [(.mv, 0), (.mv, 1)] rfl ?_
          (first | refine gr_rd rfl rfl rfl (rd_add rfl rfl (IntWalk.i64_in _ (by omega))) ?_ | refine gr_rd rfl rfl rfl (rd_add rfl rfl rfl) ?_)
          refine gr_rd rfl rfl rfl (rd_move rfl) ?_
          refine gr_nil ?_
          refine gk_round ⟨j + 1, Cj2, cj.set (j * 32) (u8v u2)⟩ ?_ ⟨rfl, rfl, hOj2, hBj.set _ _, by simp only; omega⟩ (by repeat (first | exact Subs.nil | refine Subs.cons rfl ?_))
          show q.preds.length - (j + 1) < q.preds.length - j
          omega
        · skip
          refine gc_exit ?_
          refine gk_exit_then ?_
          refine gk_exit_then ?_
          refine gk_here ?_
          refine gk_inBlock ?_
          refine gk_then ?_
          refine gc_seqr [(.mv, 0), (.mv, 1)] rfl ?_
          (first | refine gr_rd rfl rfl rfl (rd_add rfl rfl (IntWalk.i64_in _ (by omega))) ?_ | refine gr_rd rfl rfl rfl (rd_add rfl rfl rfl) ?_)
          refine gr_rd rfl rfl rfl (rd_move rfl) ?_
          refine gr_nil ?_
          refine gk_drop (L' := ((b, .cells [.map (some bo), .map (some bw), .map (some bt)].toArray 83 (0, 0)) :: (bo, ob2) :: (bw, ow2) :: (bt, ot2) :: ((br, .cells [w0, w1, w2, w3].toArray 48 (0, 0)) :: (F0 ++ (F1 ++ (F2 ++ (F3 ++ L))))))) (by repeat (first | exact List.Sublist.refl _ | exact List.nil_sublist _ | apply List.Sublist.cons_cons | apply List.Sublist.cons | refine List.Sublist.trans ?_ (List.sublist_append_right _ _))) ?_
          refine gk_round ⟨k + 1, (take s q).1, ob2, ow2, ot2, w0, w1, w2, w3, sv', sw', F0, F1, F2, F3⟩ ?_ ⟨by first | assumption | exact Gh.le_trans (by assumption) (by assumption), rfl, hR2, hS2, by simp only; omega, by simp only; omega⟩ (by repeat (first | exact Subs.nil | refine Subs.cons rfl ?_))
          show ov.length - (k + 1) < ov.length - k
          omega
    · have hk30 : k ≤ 30 := by omega
      have hsm2 : ∀ p ∈ s.ops, p.2.preds.length ≤ 32 := fun p hp => hR.small p (List.mem_append_left _ hp)
      have hnl := names_length s
      have hwl := waits_length s
      have hhl := heads_le s
      refine gc_exit ?_
      refine gk_exit_then ?_
      refine gk_exit_then ?_
      refine gk_here ?_
      refine gk_then ?_
      refine gc_seq ?_
      refine gc_seq ?_
      refine gc_seqr [(.mv, 0), (.nm, 1), (.mv, 2), (.mv, 3)] rfl ?_
      refine gr_rd rfl rfl rfl (rd_move rfl) ?_
      refine gr_nx rfl rfl rfl (nx_call Tryd.en14 rfl (names_cc _ _ hR (by omega))) ?_; rintro v63 H' L' hle ⟨Cn, hOn, rfl, rfl⟩; refine ⟨trivial, ?_⟩
      obtain ⟨An, cn, rfl, hcn⟩ := hOn.slice
      obtain ⟨_, bn, on, cn2, ln, hne, hcn2, hnn, hn0, hn1, hn2⟩ := (Ow.slT (H := H1) (L := (Cn ++ ((b, .cells [.map (some bo), .map (some bw), .map (some bt)].toArray 83 (0, 0)) :: (bo, ob) :: (bw, ow) :: (bt, ot) :: ((br, .cells [v0, v1, v2, v3].toArray 48 (0, 0)) :: (C0 ++ (C1 ++ (C2 ++ (C3 ++ L)))))))) (xs := names s) encId_length hOn rfl (by omega) (by intro x hx; simp [hx]))
      cases hne
      refine gr_rd rfl rfl rfl (rd_lenS Tryd.underlying29 rfl) ?_
      refine gr_rd rfl rfl rfl (rd_move rfl) ?_
      refine gr_nil ?_
      refine gk_then ?_
      refine gc_block ?_
      refine gc_loop (fun t : Nat => [(3, pt b 0), (4, pt br 0), (63, .slice An (names s).length cn), (64, i64 (names s).length), (65, i64 t)]) (fun t H2 L2 => H1 = H2 ∧ (Cn ++ ((b, .cells [.map (some bo), .map (some bw), .map (some bt)].toArray 83 (0, 0)) :: (bo, ob) :: (bw, ow) :: (bt, ot) :: ((br, .cells [v0, v1, v2, v3].toArray 48 (0, 0)) :: (C0 ++ (C1 ++ (C2 ++ (C3 ++ L))))))) = L2 ∧ t ≤ (names s).length) (fun t => (names s).length - t) (0) ?_ (by repeat (first | exact Subs.nil | refine Subs.cons rfl ?_)) ?_
      · exact ⟨rfl, rfl, Nat.zero_le _⟩
      · rintro k2 H2 L2 ⟨rfl, rfl, hk2⟩
        show GC _ _ _ _ [(3, pt b 0), (4, pt br 0), (63, .slice An (names s).length cn), (64, i64 (names s).length), (65, i64 k2)] H1 (Cn ++ ((b, .cells [.map (some bo), .map (some bw), .map (some bt)].toArray 83 (0, 0)) :: (bo, ob) :: (bw, ow) :: (bt, ot) :: ((br, .cells [v0, v1, v2, v3].toArray 48 (0, 0)) :: (C0 ++ (C1 ++ (C2 ++ (C3 ++ L)))))))
        refine gc_seq ?_
        refine gc_seqr [(.mv, 0)] rfl ?_
        refine gr_rd rfl rfl rfl (rd_lss rfl rfl) ?_
        refine gr_nil ?_
        refine gk_then ?_
        refine gc_seq ?_
        refine gc_cond rfl (fun hcR20 => ?_) (fun hcR20 => ?_)
        · have hlt : k2 < (names s).length := by simpa using hcR20
          obtain ⟨hAe, hca, hsa⟩ := ids_at2 (i := (k2 : Int)) hn1 hn2 hlt rfl
          obtain ⟨nk, hnk⟩ : ∃ nk, ((names s).getD k2 Nm.zero) = nk := ⟨_, rfl⟩
          rw [hnk] at hsa
          obtain ⟨G, hGq⟩ : ∃ G, (Tr.get s.ops nk).getD zeroOp = G := ⟨_, rfl⟩
          have hGl : G.preds.length ≤ 32 := by
            rw [← hGq]
            cases hg : Tr.get s.ops nk with
            | none => exact Nat.zero_le _
            | some q => exact hsm2 _ (get_mem hg)
          refine gc_skip ?_
          refine gk_then ?_
          refine gc_seq ?_
          refine gc_block ?_
          refine gc_seq ?_
          refine gc_seqr [(.mv, 0), (.mv, 1), (.nm, 2), (.nm, 3)] rfl ?_
          refine gr_rd rfl rfl rfl (rd_indexS Tryd.underlying29 Tryd.sizeOf34 rfl rfl hAe (by omega) (by omega)) ?_
          refine gr_rd rfl rfl rfl (rd_loadA Tryd.ta34 rfl hca hsa (encId_length _)) ?_
          refine gr_nx rfl rfl rfl (nx_alloc Tryd.zeroValue34 rfl) ?_; rintro _ _ _ _ ⟨b10, rfl, rfl, rfl⟩; refine ⟨trivial, ?_⟩
          refine gr_nx0 rfl rfl (nx_store (vs := encId nk) Tryd.sizeOf34 rfl rfl rfl (encId_length _) (by repeat (first | exact Upd.here | exact Upd.appl (by assumption) | apply Upd.there | apply Upd.app)) (by simp) (encId_ones _)) ?_; rintro _ _ _ _ ⟨rfl, rfl, rfl⟩; refine ⟨trivial, ?_⟩
          rw [wr_all (by simp)]
          refine gr_nil ?_
          refine gk_then ?_
          refine gc_seq ?_
          refine gc_seqr [(.mv, 0), (.mv, 1), (.nm, 2), (.mv, 3), (.mv, 4), (.mv, 5), (.nm, 6), (.nm, 7), (.mv, 8)] rfl ?_
          refine gr_rd rfl rfl rfl (rd_move rfl) ?_
          refine gr_rd rfl rfl rfl (rd_loadA Tryd.ta34 rfl (Cells.own (l := encId nk) (T := 34) (z := (0, 0)) (by simp [baseL])) (Seg.all _) (encId_length _)) ?_
          refine gr_nx rfl rfl rfl (nx_call Tryd.en15 rfl (get_cc _ _ (hR.view (b := b) (bo := bo) (bw := bw) (bt := bt) (Cells.own (l := [.map (some bo), .map (some bw), .map (some bt)]) (T := 83) (z := (0, 0)) (by simp )) (by simp) (by simp) (by simp)) hsm2 nk)) ?_; rintro v72 H' L' hle ⟨C7, u7, rfl, hO7, rfl, rfl⟩; refine ⟨trivial, ?_⟩
          rw [hGq] at hO7 ⊢
          obtain ⟨a7, c7, rfl, hc7⟩ := hO7.slice
          refine gr_rd rfl rfl rfl (rd_move rfl) ?_
          refine gr_rd rfl rfl rfl (rd_extract rfl rfl) ?_
          refine gr_rd rfl rfl rfl (rd_extract rfl rfl) ?_
          refine gr_nx rfl rfl rfl (nx_alloc Tryd.zeroValue38 rfl) ?_; rintro _ _ _ _ ⟨b11, rfl, rfl, rfl⟩; refine ⟨trivial, ?_⟩
          refine gr_nx0 rfl rfl (nx_store (vs := encOp G (.slice a7 G.preds.length c7)) Tryd.sizeOf38 rfl rfl rfl (encOp_length _ _) (by repeat (first | exact Upd.here | exact Upd.appl (by assumption) | apply Upd.there | apply Upd.app)) (by simp) (encOp_ones _ rfl)) ?_; rintro _ _ _ _ ⟨rfl, rfl, rfl⟩; refine ⟨trivial, ?_⟩
          rw [wr_all (by simp)]
          refine gr_rd rfl rfl rfl (rd_assign rfl) ?_
          refine gr_nil ?_
          refine gk_then ?_
          refine gc_seq ?_
          refine gc_seqr [(.mv, 0), (.mv, 1), (.mv, 2), (.mv, 3)] rfl ?_
          refine gr_perm (L' := (C7 ++ ((b11, .cells (encOp G (.slice a7 G.preds.length c7)).toArray 38 (0, 0)) :: (b10, .cells (encId nk).toArray 34 (0, 0)) :: (Cn ++ ((b, .cells [.map (some bo), .map (some bw), .map (some bt)].toArray 83 (0, 0)) :: (bo, ob) :: (bw, ow) :: (bt, ot) :: ((br, .cells [v0, v1, v2, v3].toArray 48 (0, 0)) :: (C0 ++ (C1 ++ (C2 ++ (C3 ++ L)))))))))) (by haveI : DecidableEq (Nat × Obj) := fun _ _ => Classical.propDecidable _; rw [List.perm_iff_count]; intro a; simp only [List.count_append, List.count_cons, List.count_nil]; ac_rfl) ?_
          refine gr_rd rfl rfl rfl (rd_fieldAddr Tryd.fa38_3 rfl) ?_
          refine gr_rd rfl rfl rfl (rd_load1 Tryd.to29 rfl (Cells.own (l := encOp G (.slice a7 G.preds.length c7)) (T := 38) (z := (0, 0)) (by simp [baseL])) (encOp_37 _ _)) ?_
          refine gr_rd rfl rfl rfl (rd_lenS Tryd.underlying29 rfl) ?_
          refine gr_rd rfl rfl rfl (rd_move rfl) ?_
          refine gr_nil ?_
          refine gk_then ?_
          refine gc_block ?_
          refine gc_loop (fun t : BS => [(3, pt b 0), (4, pt br 0), (63, .slice An (names s).length cn), (64, i64 (names s).length), (65, i64 k2), (11, pt b11 0), (77, i64 G.preds.length), (78, i64 t.j)]) (fun t H2 L2 => H1 = H2 ∧ t.C ++ ((b11, .cells (encOp G (.slice a7 G.preds.length c7)).toArray 38 (0, 0)) :: (b10, .cells (encId nk).toArray 34 (0, 0)) :: (Cn ++ ((b, .cells [.map (some bo), .map (some bw), .map (some bt)].toArray 83 (0, 0)) :: (bo, ob) :: (bw, ow) :: (bt, ot) :: ((br, .cells [v0, v1, v2, v3].toArray 48 (0, 0)) :: (C0 ++ (C1 ++ (C2 ++ (C3 ++ L)))))))) = L2 ∧ Ow 34 32 t.C (.slice a7 G.preds.length c7) G.preds.length t.cs ∧ AllB t.cs ∧ t.j ≤ G.preds.length) (fun t => G.preds.length - t.j) (⟨0, C7, G.preds.flatMap encId⟩) ?_ (by repeat (first | exact Subs.nil | refine Subs.cons rfl ?_)) ?_
          · exact ⟨rfl, rfl, hO7, AllB.ids _, Nat.zero_le _⟩
          · rintro ⟨j, Cj, cj⟩ H2 L2 ⟨rfl, rfl, hOj, hBj, hj⟩
            simp only at hOj hBj hj
            show GC _ _ _ _ [(3, pt b 0), (4, pt br 0), (63, .slice An (names s).length cn), (64, i64 (names s).length), (65, i64 k2), (11, pt b11 0), (77, i64 G.preds.length), (78, i64 j)] H1 (Cj ++ ((b11, .cells (encOp G (.slice a7 G.preds.length c7)).toArray 38 (0, 0)) :: (b10, .cells (encId nk).toArray 34 (0, 0)) :: (Cn ++ ((b, .cells [.map (some bo), .map (some bw), .map (some bt)].toArray 83 (0, 0)) :: (bo, ob) :: (bw, ow) :: (bt, ot) :: ((br, .cells [v0, v1, v2, v3].toArray 48 (0, 0)) :: (C0 ++ (C1 ++ (C2 ++ (C3 ++ L)))))))))
            refine gc_seq ?_
            refine gc_seqr [(.mv, 0)] rfl ?_
            refine gr_rd rfl rfl rfl (rd_lss rfl rfl) ?_
            refine gr_nil ?_
            refine gk_then ?_
            refine gc_seq ?_
            refine gc_cond rfl (fun hcR24 => ?_) (fun hcR24 => ?_)
            · have hltj : j < G.preds.length := by simpa using hcR24
              obtain ⟨bj, lj, uj, hje, hcj, hvj, hlj, hcapj⟩ := hOj.at_byte hBj hltj
              subst hje
              obtain ⟨u2, hu2⟩ := u8_wrap ((uj.toNat : Int) + 1)
              refine gc_skip ?_
              refine gk_then ?_
              refine gc_seq ?_
              refine gc_block ?_
              refine gc_seq ?_
              refine gc_seqr [(.mv, 0), (.mv, 1)] rfl ?_
              refine gr_rd rfl rfl rfl (rd_move rfl) ?_
              refine gr_rd rfl rfl rfl (rd_assign rfl) ?_
              refine gr_nil ?_
              refine gk_then ?_
              refine gc_draw Tryd.mixed [(.mv, 0), (.mv, 1), (.mv, 2), (.mv, 3), (.mv, 4), (.mv, 5), (.mv, 6), (.mv, 7), (.mv, 8), (.fin, 9)] (by decide +kernel) _ (List.Sublist.refl _) ?_
              refine gr_rd rfl rfl rfl (rd_fieldAddr Tryd.fa38_3 rfl) ?_
              refine gr_rd rfl rfl rfl (rd_load1 Tryd.to29 rfl (Cells.own (l := encOp G (.slice (some ⟨bj, 0, none⟩) G.preds.length c7)) (T := 38) (z := (0, 0)) (by simp [baseL])) (encOp_37 _ _)) ?_
              refine gr_rd rfl rfl rfl (rd_move rfl) ?_
              refine gr_rd rfl rfl rfl (rd_indexS Tryd.underlying29 Tryd.sizeOf34 rfl rfl rfl (by omega) (by omega)) ?_
              refine gr_rd rfl rfl rfl (rd_indexA Tryd.underlying34 Tryd.sizeOf5 rfl rfl (by decide) (by decide)) ?_
              refine gr_rd rfl rfl rfl (rd_load1 Tryd.to5 rfl (hcj _ _ (by intro x hx; simp [baseL, hx])) (by simpa using hvj)) ?_
              refine gr_rd rfl rfl rfl (rd_add rfl rfl hu2) ?_
              refine gr_rd rfl rfl rfl (rd_indexS Tryd.underlying29 Tryd.sizeOf34 rfl rfl rfl (by omega) (by omega)) ?_
              refine gr_rd rfl rfl rfl (rd_indexA Tryd.underlying34 Tryd.sizeOf5 rfl rfl (by decide) (by decide)) ?_
              refine gr_fin0 rfl rfl (nx_storeOw (o := j * 32) Tryd.sizeOf5 hOj (by simp [ev]; rfl) rfl hlj rfl Pick.here) ?_; rintro _ H' L' hle2 ⟨rfl, rfl, Cj2, hOj2, rfl⟩
              refine gr_nil ?_
              refine gk_inBlock ?_
              refine gk_then ?_
              refine gc_seqr [(.mv, 0), (.mv, 1)] rfl ?_
              (first | refine gr_rd rfl rfl rfl (rd_add rfl rfl (IntWalk.i64_in _ (by omega))) ?_ | refine gr_rd rfl rfl rfl (rd_add rfl rfl rfl) ?_)
              refine gr_rd rfl rfl rfl (rd_move rfl) ?_
              refine gr_nil ?_
              refine gk_round ⟨j + 1, Cj2, cj.set (j * 32) (u8v u2)⟩ ?_ ⟨rfl, rfl, hOj2, hBj.set _ _, by simp only; omega⟩ (by repeat (first | exact Subs.nil | refine Subs.cons rfl ?_))
              show G.preds.length - (j + 1) < G.preds.length - j
              omega
            · skip
              refine gc_exit ?_
              refine gk_exit_then ?_
              refine gk_exit_then ?_
              refine gk_here ?_
              refine gk_inBlock ?_
              refine gk_then ?_
              refine gc_seqr [(.mv, 0), (.mv, 1)] rfl ?_
              (first | refine gr_rd rfl rfl rfl (rd_add rfl rfl (IntWalk.i64_in _ (by omega))) ?_ | refine gr_rd rfl rfl rfl (rd_add rfl rfl rfl) ?_)
              refine gr_rd rfl rfl rfl (rd_move rfl) ?_
              refine gr_nil ?_
              refine gk_drop (L' := (Cn ++ ((b, .cells [.map (some bo), .map (some bw), .map (some bt)].toArray 83 (0, 0)) :: (bo, ob) :: (bw, ow) :: (bt, ot) :: ((br, .cells [v0, v1, v2, v3].toArray 48 (0, 0)) :: (C0 ++ (C1 ++ (C2 ++ (C3 ++ L)))))))) (by repeat (first | exact List.Sublist.refl _ | exact List.nil_sublist _ | apply List.Sublist.cons_cons | apply List.Sublist.cons | refine List.Sublist.trans ?_ (List.sublist_append_right _ _))) ?_
              refine gk_round (k2 + 1) ?_ ⟨rfl, rfl, by omega⟩ (by repeat (first | exact Subs.nil | refine Subs.cons rfl ?_))
              show (names s).length - (k2 + 1) < (names s).length - k2
              omega
        · skip
          refine gc_exit ?_
          refine gk_exit_then ?_
          refine gk_exit_then ?_
          refine gk_here ?_
          refine gk_then ?_
          refine gc_seq ?_
          refine gc_seq ?_
          refine gc_seqr [(.mv, 0), (.nm, 1), (.mv, 2), (.nm, 3), (.mv, 4), (.nm, 5), (.mv, 6), (.mv, 7)] rfl ?_
          refine gr_drop (L' := ((b, .cells [.map (some bo), .map (some bw), .map (some bt)].toArray 83 (0, 0)) :: (bo, ob) :: (bw, ow) :: (bt, ot) :: ((br, .cells [v0, v1, v2, v3].toArray 48 (0, 0)) :: (C0 ++ (C1 ++ (C2 ++ (C3 ++ L))))))) (List.sublist_append_right _ _) ?_
          refine gr_rd rfl rfl rfl (rd_move rfl) ?_
          refine gr_nx rfl rfl rfl (nx_call Tryd.en14 rfl (names_cc _ _ hR (by omega))) ?_; rintro v93 H' L' hle ⟨Ka, hOa, rfl, rfl⟩; refine ⟨trivial, ?_⟩
          obtain ⟨aa, ca, rfl, hca⟩ := hOa.slice
          refine gr_rd rfl rfl rfl (rd_move rfl) ?_
          refine gr_perm (L' := ((b, .cells [.map (some bo), .map (some bw), .map (some bt)].toArray 83 (0, 0)) :: (bo, ob) :: (bw, ow) :: (bt, ot) :: (Ka ++ ((br, .cells [v0, v1, v2, v3].toArray 48 (0, 0)) :: (C0 ++ (C1 ++ (C2 ++ (C3 ++ L)))))))) (by haveI : DecidableEq (Nat × Obj) := fun _ _ => Classical.propDecidable _; rw [List.perm_iff_count]; intro a; simp only [List.count_append, List.count_cons, List.count_nil]; ac_rfl) ?_
          refine gr_nx rfl rfl rfl (nx_call Tryd.en21 rfl (heads_cc _ _ hR (by omega))) ?_; rintro v95 H' L' hle ⟨Kb, hOb, rfl, rfl⟩; refine ⟨trivial, ?_⟩
          obtain ⟨ab, cb, rfl, hcb⟩ := hOb.slice
          refine gr_rd rfl rfl rfl (rd_move rfl) ?_
          refine gr_perm (L' := ((b, .cells [.map (some bo), .map (some bw), .map (some bt)].toArray 83 (0, 0)) :: (bo, ob) :: (bw, ow) :: (bt, ot) :: (Kb ++ (Ka ++ ((br, .cells [v0, v1, v2, v3].toArray 48 (0, 0)) :: (C0 ++ (C1 ++ (C2 ++ (C3 ++ L))))))))) (by haveI : DecidableEq (Nat × Obj) := fun _ _ => Classical.propDecidable _; rw [List.perm_iff_count]; intro a; simp only [List.count_append, List.count_cons, List.count_nil]; ac_rfl) ?_
          refine gr_nx rfl rfl rfl (nx_call Tryd.en18 rfl (waits_cc _ _ hR (by omega))) ?_; rintro v97 H' L' hle ⟨Kc, hOc, rfl, rfl⟩; refine ⟨trivial, ?_⟩
          obtain ⟨ac, cc, rfl, hcc⟩ := hOc.slice
          refine gr_perm (L' := (Ka ++ (Kb ++ (Kc ++ ((b, .cells [.map (some bo), .map (some bw), .map (some bt)].toArray 83 (0, 0)) :: (bo, ob) :: (bw, ow) :: (bt, ot) :: ((br, .cells [v0, v1, v2, v3].toArray 48 (0, 0)) :: (C0 ++ (C1 ++ (C2 ++ (C3 ++ L)))))))))) (by haveI : DecidableEq (Nat × Obj) := fun _ _ => Classical.propDecidable _; rw [List.perm_iff_count]; intro a; simp only [List.count_append, List.count_cons, List.count_nil]; ac_rfl) ?_
          refine gr_rd rfl rfl rfl (rd_build (buildT_array (zl := [nilS, nilS, nilS]) Tryd.underlying50 Tryd.zeroValue50 rfl Tryd.sizeOf29) (ps := [(0, .slice aa (names s).length ca), (1, .slice ab (heads s).length cb), (2, .slice ac (waits s).length cc)]) (l := [.slice aa (names s).length ca, .slice ab (heads s).length cb, .slice ac (waits s).length cc]) rfl rfl) ?_
          refine gr_rd rfl rfl rfl (rd_move rfl) ?_
          refine gr_nil ?_
          refine gk_then ?_
          refine gc_block ?_
          refine gc_loop (fun t : LS3 => [(3, pt b 0), (4, pt br 0), (98, ag [.slice aa (names s).length ca, .slice ab (heads s).length cb, .slice ac (waits s).length cc]), (99, i64 t.i)]) (fun t H2 L2 => H1 = H2 ∧ t.C0 ++ (t.C1 ++ (t.C2 ++ ((b, .cells [.map (some bo), .map (some bw), .map (some bt)].toArray 83 (0, 0)) :: (bo, ob) :: (bw, ow) :: (bt, ot) :: ((br, .cells [v0, v1, v2, v3].toArray 48 (0, 0)) :: (C0 ++ (C1 ++ (C2 ++ (C3 ++ L)))))))) = L2 ∧ Ow 34 32 t.C0 (.slice aa (names s).length ca) (names s).length t.c0 ∧ Ow 34 32 t.C1 (.slice ab (heads s).length cb) (heads s).length t.c1 ∧ Ow 34 32 t.C2 (.slice ac (waits s).length cc) (waits s).length t.c2 ∧ AllB t.c0 ∧ AllB t.c1 ∧ AllB t.c2 ∧ t.i ≤ 3) (fun t => 3 - t.i) (⟨0, Ka, (names s).flatMap encId, Kb, (heads s).flatMap encId, Kc, (waits s).flatMap encId⟩) ?_ (by repeat (first | exact Subs.nil | refine Subs.cons rfl ?_)) ?_
          · exact ⟨rfl, rfl, hOa, hOb, hOc, AllB.ids _, AllB.ids _, AllB.ids _, Nat.zero_le _⟩
          · rintro ⟨i, K0, x0, K1, x1, K2, x2⟩ H2 L2 ⟨rfl, rfl, hW0, hW1, hW2, hB0, hB1, hB2, hi3⟩
            simp only at hW0 hW1 hW2 hB0 hB1 hB2 hi3
            show GC _ _ _ _ [(3, pt b 0), (4, pt br 0), (98, ag [.slice aa (names s).length ca, .slice ab (heads s).length cb, .slice ac (waits s).length cc]), (99, i64 i)] H1 (K0 ++ (K1 ++ (K2 ++ ((b, .cells [.map (some bo), .map (some bw), .map (some bt)].toArray 83 (0, 0)) :: (bo, ob) :: (bw, ow) :: (bt, ot) :: ((br, .cells [v0, v1, v2, v3].toArray 48 (0, 0)) :: (C0 ++ (C1 ++ (C2 ++ (C3 ++ L)))))))))
            refine gc_seq ?_
            refine gc_seqr [(.mv, 0)] rfl ?_
            refine gr_rd rfl rfl rfl (rd_lss rfl rfl) ?_
            refine gr_nil ?_
            refine gk_then ?_
            refine gc_seq ?_
            refine gc_cond rfl (fun hcR30 => ?_) (fun hcR30 => ?_)
            · have hi : i < 3 := by have := hcR30; simp at this; omega
              obtain ⟨pa, pn, pc, K, pl, Rr, hpi, hOp, hBp, hpp, hpn, hback⟩ := pick3 (W := ((b, .cells [.map (some bo), .map (some bw), .map (some bt)].toArray 83 (0, 0)) :: (bo, ob) :: (bw, ow) :: (bt, ot) :: ((br, .cells [v0, v1, v2, v3].toArray 48 (0, 0)) :: (C0 ++ (C1 ++ (C2 ++ (C3 ++ L))))))) hW0 hW1 hW2 hB0 hB1 hB2 hi
              refine gc_perm hpp ?_
              have hpn2 : pn ≤ 60 := by rcases hpn with e | e | e <;> omega
              refine gc_skip ?_
              refine gk_then ?_
              refine gc_seq ?_
              refine gc_block ?_
              refine gc_seq ?_
              refine gc_seqr [(.mv, 0), (.mv, 1)] rfl ?_
              refine gr_rd rfl rfl rfl (rd_indexArr1 Tryd.underlying50 Tryd.to29 rfl rfl (by omega) (by omega) (by rw [Int.toNat_natCast]; exact hpi)) ?_
              refine gr_rd rfl rfl rfl (rd_assign rfl) ?_
              refine gr_nil ?_
              refine gk_then ?_
              refine gc_seq ?_
              refine gc_seqr [(.mv, 0), (.mv, 1), (.mv, 2)] rfl ?_
              refine gr_rd rfl rfl rfl (rd_move rfl) ?_
              refine gr_rd rfl rfl rfl (rd_lenS Tryd.underlying29 rfl) ?_
              refine gr_rd rfl rfl rfl (rd_move rfl) ?_
              refine gr_nil ?_
              refine gk_then ?_
              refine gc_block ?_
              refine gc_loop (fun t : BS => [(3, pt b 0), (4, pt br 0), (98, ag [.slice aa (names s).length ca, .slice ab (heads s).length cb, .slice ac (waits s).length cc]), (99, i64 i), (15, .slice pa pn pc), (103, i64 pn), (104, i64 t.j)]) (fun t H2 L2 => H1 = H2 ∧ t.C ++ Rr = L2 ∧ Ow 34 32 t.C (.slice pa pn pc) pn t.cs ∧ AllB t.cs ∧ t.j ≤ pn) (fun t => pn - t.j) (⟨0, K, pl⟩) ?_ (by repeat (first | exact Subs.nil | refine Subs.cons rfl ?_)) ?_
              · exact ⟨rfl, rfl, hOp, hBp, Nat.zero_le _⟩
              · rintro ⟨j, Cj, cj⟩ H2 L2 ⟨rfl, rfl, hOj, hBj, hj⟩
                simp only at hOj hBj hj
                show GC _ _ _ _ [(3, pt b 0), (4, pt br 0), (98, ag [.slice aa (names s).length ca, .slice ab (heads s).length cb, .slice ac (waits s).length cc]), (99, i64 i), (15, .slice pa pn pc), (103, i64 pn), (104, i64 j)] H1 (Cj ++ Rr)
                refine gc_seq ?_
                refine gc_seqr [(.mv, 0)] rfl ?_
                refine gr_rd rfl rfl rfl (rd_lss rfl rfl) ?_
                refine gr_nil ?_
                refine gk_then ?_
                refine gc_seq ?_
                refine gc_cond rfl (fun hcR33 => ?_) (fun hcR33 => ?_)
                · have hltj : j < pn := by simpa using hcR33
                  obtain ⟨bj, lj, uj, hje, hcj, hvj, hlj, hcapj⟩ := hOj.at_byte hBj hltj
                  subst hje
                  obtain ⟨u2, hu2⟩ := u8_wrap ((uj.toNat : Int) + 1)
                  refine gc_skip ?_
                  refine gk_then ?_
                  refine gc_seq ?_
                  refine gc_block ?_
                  refine gc_seq ?_
                  refine gc_seqr [(.mv, 0), (.mv, 1)] rfl ?_
                  refine gr_rd rfl rfl rfl (rd_move rfl) ?_
                  refine gr_rd rfl rfl rfl (rd_assign rfl) ?_
                  refine gr_nil ?_
                  refine gk_then ?_
                  refine gc_draw Tryd.mixed [(.mv, 0), (.mv, 1), (.mv, 2), (.mv, 3), (.mv, 4), (.mv, 5), (.mv, 6), (.mv, 7), (.fin, 8)] (by decide +kernel) _ (List.Sublist.refl _) ?_
                  refine gr_rd rfl rfl rfl (rd_move rfl) ?_
                  refine gr_rd rfl rfl rfl (rd_move rfl) ?_
                  refine gr_rd rfl rfl rfl (rd_indexS Tryd.underlying29 Tryd.sizeOf34 rfl rfl rfl (by omega) (by omega)) ?_
                  refine gr_rd rfl rfl rfl (rd_indexA Tryd.underlying34 Tryd.sizeOf5 rfl rfl (by decide) (by decide)) ?_
                  refine gr_rd rfl rfl rfl (rd_load1 Tryd.to5 rfl (hcj _ _ (by intro x hx; simp [baseL, hx])) (by simpa using hvj)) ?_
                  refine gr_rd rfl rfl rfl (rd_add rfl rfl hu2) ?_
                  refine gr_rd rfl rfl rfl (rd_indexS Tryd.underlying29 Tryd.sizeOf34 rfl rfl rfl (by omega) (by omega)) ?_
                  refine gr_rd rfl rfl rfl (rd_indexA Tryd.underlying34 Tryd.sizeOf5 rfl rfl (by decide) (by decide)) ?_
                  refine gr_fin0 rfl rfl (nx_storeOw (o := j * 32) Tryd.sizeOf5 hOj (by simp [ev]; rfl) rfl hlj rfl Pick.here) ?_; rintro _ H' L' hle2 ⟨rfl, rfl, Cj2, hOj2, rfl⟩
                  refine gr_nil ?_
                  refine gk_inBlock ?_
                  refine gk_then ?_
                  refine gc_seqr [(.mv, 0), (.mv, 1)] rfl ?_
                  (first | refine gr_rd rfl rfl rfl (rd_add rfl rfl (IntWalk.i64_in _ (by omega))) ?_ | refine gr_rd rfl rfl rfl (rd_add rfl rfl rfl) ?_)
                  refine gr_rd rfl rfl rfl (rd_move rfl) ?_
                  refine gr_nil ?_
                  refine gk_round ⟨j + 1, Cj2, cj.set (j * 32) (u8v u2)⟩ ?_ ⟨rfl, rfl, hOj2, hBj.set _ _, by simp only; omega⟩ (by repeat (first | exact Subs.nil | refine Subs.cons rfl ?_))
                  show pn - (j + 1) < pn - j
                  omega
                · skip
                  refine gc_exit ?_
                  refine gk_exit_then ?_
                  refine gk_exit_then ?_
                  refine gk_here ?_
                  refine gk_inBlock ?_
                  refine gk_then ?_
                  refine gc_seqr [(.mv, 0), (.mv, 1)] rfl ?_
                  (first | refine gr_rd rfl rfl rfl (rd_add rfl rfl (IntWalk.i64_in _ (by omega))) ?_ | refine gr_rd rfl rfl rfl (rd_add rfl rfl rfl) ?_)
                  refine gr_rd rfl rfl rfl (rd_move rfl) ?_
                  refine gr_nil ?_
                  obtain ⟨J0, J1, J2, m0, m1, m2, hJp, hJ0, hJ1, hJ2, hM0, hM1, hM2⟩ := hback Cj cj hOj hBj
                  refine gk_perm hJp ?_
                  refine gk_round ⟨i + 1, J0, m0, J1, m1, J2, m2⟩ ?_ ⟨rfl, rfl, hJ0, hJ1, hJ2, hM0, hM1, hM2, by simp only; omega⟩ (by repeat (first | exact Subs.nil | refine Subs.cons rfl ?_))
                  show 3 - (i + 1) < 3 - i
                  omega
            · skip
              refine gc_exit ?_
              refine gk_exit_then ?_
              refine gk_exit_then ?_
              refine gk_here ?_
              refine gk_then ?_
              refine gc_seq ?_
              refine gc_seqr [(.mv, 0), (.mv, 1), (.nm, 2), (.mv, 3)] rfl ?_
              refine gr_rd rfl rfl rfl (rd_move rfl) ?_
              refine gr_rd rfl rfl rfl (rd_move rfl) ?_
              refine gr_perm (L' := ((b, .cells [.map (some bo), .map (some bw), .map (some bt)].toArray 83 (0, 0)) :: (bo, ob) :: (bw, ow) :: (bt, ot) :: (K0 ++ (K1 ++ (K2 ++ ((br, .cells [v0, v1, v2, v3].toArray 48 (0, 0)) :: (C0 ++ (C1 ++ (C2 ++ (C3 ++ L)))))))))) (by haveI : DecidableEq (Nat × Obj) := fun _ _ => Classical.propDecidable _; rw [List.perm_iff_count]; intro a; simp only [List.count_append, List.count_cons, List.count_nil]; ac_rfl) ?_
              refine gr_nx rfl rfl rfl (nx_call Tryd.en22 rfl (same2_cc _ _ hR (hS.view (T := 48) (z := (0, 0)) (by omega) (by simp) (by intro x hx; simp [hx]) (by intro x hx; simp [hx]) (by intro x hx; simp [hx]) (by intro x hx; simp [hx])) (by omega))) ?_; rintro v119 H' L' hle ⟨rfl, rfl, rfl⟩; refine ⟨trivial, ?_⟩
              refine gr_rd rfl rfl rfl (rd_assign rfl) ?_
              refine gr_nil ?_
              refine gk_then ?_
              refine gc_ret ?_
              refine gk_drop (L' := L) (by repeat (first | exact List.Sublist.refl _ | exact List.nil_sublist _ | apply List.Sublist.cons_cons | apply List.Sublist.cons | refine List.Sublist.trans ?_ (List.sublist_append_right _ _))) ?_
              refine gk_result (L' := L) (.inl rfl) _ (res1 rfl rfl) (List.Sublist.refl _) (by first | exact Gh.le_refl _ | assumption | exact Gh.le_trans (by assumption) (by assumption)) ?_
              exact ⟨rfl, rfl⟩
end Go.Proofs.YtfhldfjknagidaaDoor
