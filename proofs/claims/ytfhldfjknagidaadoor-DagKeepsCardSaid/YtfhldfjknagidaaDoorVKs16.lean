/-
  Walks: the names of a map, one by one; collected.
-/
import Derived.Test.YtfhldfjknagidaaDoorVKs15
import Derived.Test.YtfhldfjknagidaaDoorVKt
set_option linter.unusedSimpArgs false
set_option linter.unusedVariables false
set_option linter.unnecessarySimpa false
set_option linter.all false
namespace Go.Proofs.YtfhldfjknagidaaDoor
open Go.VK Go.Tr
set_option maxRecDepth 20000
attribute [local irreducible] Go.Tr.sha
theorem Tryd.tm : TMap Tryd.prog 80 34 38 5 := ⟨Tryd.underlying80, Tryd.tb34⟩
structure KS where
  xs : List Nm
  C : Chunks
  iq : Obj
  cnt : Nat

set_option maxHeartbeats 1000000 in
theorem keysGo_cc (H : Gh) (LB : Chunks) {lp Bm b : Nat} {ob : Obj} {m : List (Nm × Value)} (hM : MapO ob m) (J : List Nm → Chunks → Prop)
    (hY : ∀ pre x C (L0 : Chunks) w, pre.length < m.length → J pre C → Sat w H (C ++ L0) → YieldAt Fence.wide 0 Tryd.prog lp #[ag (encId x)] w fun e w' => e = .returned (.bool true) ∧ ∃ C', J (pre ++ [x]) C' ∧ Sat w' H (C' ++ L0)) (C0 : Chunks) (h0 : J [] C0) :
    CC Tryd.prog 75 #[.func (.yield lp) #[] #[], pt Bm 0] H (C0 ++ ((Bm, .cells [.map (some b)].toArray 80 (0, 0)) :: (b, ob) :: LB)) (fun _ H' L' => ∃ xs C, xs.Perm (m.map (·.1)) ∧ J xs C ∧ H = H' ∧ C ++ ((Bm, .cells [.map (some b)].toArray 80 (0, 0)) :: (b, ob) :: LB) = L') := by
  refine cc_of Tryd.func75 rfl (Nat.le_of_ble_eq_true rfl) ?_
  simp only [Tryd.ntmps75]
  refine gc_seq ?_
  refine gc_seqr [(.mv, 0), (.nm, 1)] rfl ?_
  refine gr_rd rfl rfl rfl (rd_load1 Tryd.to80 rfl (Cells.own (l := [.map (some b)]) (T := 80) (z := (0, 0)) (by simp [baseL])) rfl) ?_
  refine gr_nx rfl rfl rfl (nx_range (hd := ob) Tryd.underlying80 rfl hM (by simp)) ?_; rintro v5 H' L' hle ⟨r, iq0, rfl, rfl, hI0, rfl⟩; refine ⟨trivial, ?_⟩
  refine gr_nil ?_
  refine gk_then ?_
  refine gc_block ?_
  refine gc_loop (fun t : KS => [(0, .func (.yield lp) #[] #[]), (5, pt r 0)]) (fun t H1 L1 => H = H1 ∧ (r, t.iq) :: (t.C ++ ((Bm, .cells [.map (some b)].toArray 80 (0, 0)) :: (b, ob) :: LB)) = L1 ∧ J t.xs t.C ∧ ItO b ob t.iq m t.xs t.cnt) (fun t => t.cnt) (⟨[], C0, iq0, m.length⟩) ?_ (by repeat (first | exact Subs.nil | refine Subs.cons rfl ?_)) ?_
  · exact ⟨rfl, rfl, h0, hI0⟩
  · rintro ⟨xs, C, iq, cnt⟩ H1 L1 ⟨rfl, rfl, hJ, hI⟩
    simp only at hJ hI
    show GC _ _ _ _ [(0, .func (.yield lp) #[] #[]), (5, pt r 0)] H ((r, iq) :: (C ++ ((Bm, .cells [.map (some b)].toArray 80 (0, 0)) :: (b, ob) :: LB)))
    refine gc_seq ?_
    refine gc_seqr [(.nm, 0), (.mv, 1)] rfl ?_
    refine gr_nx rfl rfl rfl (nx_next (ob := ob) rfl (by simp) hI) ?_; rintro v6 H' L' hle ⟨c, vs, iq2, rfl, hv0, rfl, rfl, hdone, hmore⟩; refine ⟨trivial, ?_⟩
    refine gr_rd rfl rfl rfl (rd_extract rfl hv0) ?_
    refine gr_nil ?_
    refine gk_then ?_
    refine gc_seq ?_
    refine gc_cond rfl (fun hc0 => ?_) (fun hc0 => ?_)
    · obtain ⟨n, u, cnt2, hn1, hn2, hI2, hlt, hent⟩ := hmore hc0
      refine gc_skip ?_
      refine gk_then ?_
      refine gc_block ?_
      refine gc_seq ?_
      refine gc_seqr [(.mv, 0), (.mv, 1), (.nm, 2), (.nm, 3)] rfl ?_
      refine gr_rd rfl rfl rfl (rd_entry (b := b) (ob := ob) rfl (by simp [baseL]) (by simp [baseL]) hent) ?_
      refine gr_rd rfl rfl rfl (rd_extract rfl rfl) ?_
      refine gr_nx rfl rfl rfl (nx_alloc Tryd.zeroValue34 rfl) ?_; rintro _ _ _ _ ⟨b3, rfl, rfl, rfl⟩; refine ⟨trivial, ?_⟩
      refine gr_nx0 rfl rfl (nx_store (vs := encId n) Tryd.sizeOf34 rfl rfl rfl (encId_length _) Upd.here (by simp) (encId_ones _)) ?_; rintro _ _ _ _ ⟨rfl, rfl, rfl⟩; refine ⟨trivial, ?_⟩
      rw [wr_all (by simp)]
      refine gr_nil ?_
      refine gk_then ?_
      refine gc_seq ?_
      refine gc_wide ?_
      refine gi_rd (v := .func (.yield lp) #[] #[]) ⟨fun _ _ _ => rfl, fun _ h => by cases h⟩ rfl (rd_move rfl) ?_
      refine gi_rd (v := ag (encId n)) ⟨fun _ _ _ => rfl, fun _ h => by cases h⟩ rfl (rd_loadA Tryd.ta34 rfl (Cells.own List.mem_cons_self) (Seg.all _) (encId_length _)) ?_
      refine gi_yield (f := lp) (xs := [.tmp 11]) (vs := [ag (encId n)]) (R := fun v H' L' => v = .bool true ∧ H = H' ∧ ∃ C', J (xs ++ [n]) C' ∧ C' ++ ((b3, .cells (encId n).toArray 34 (0, 0)) :: (r, iq2) :: ((Bm, .cells [.map (some b)].toArray 80 (0, 0)) :: (b, ob) :: LB)) = L') rfl rfl rfl rfl (fun w hw => ?_) ?_
      · have hlen := hI2.len (r := r) hw (by simp) (by simp)
        refine YieldAt.mono (hY xs n C ((b3, .cells (encId n).toArray 34 (0, 0)) :: (r, iq2) :: ((Bm, .cells [.map (some b)].toArray 80 (0, 0)) :: (b, ob) :: LB)) w (by simp at hlen; omega) hJ (hw.perm (by haveI : DecidableEq (Nat × Obj) := fun _ _ => Classical.propDecidable _; rw [List.perm_iff_count]; intro a; simp only [List.count_append, List.count_cons, List.count_nil]; ac_rfl))) ?_
        rintro e w' ⟨rfl, C', h1, h2⟩
        exact ⟨_, H, _, rfl, Gh.le_refl _, h2, rfl, rfl, C', h1, rfl⟩
      rintro _ _ _ _ ⟨rfl, rfl, C2, hJ2, rfl⟩
      refine gi_rd (v := .bool (!true)) ⟨fun _ _ _ => rfl, fun _ h => by cases h⟩ rfl (rd_not rfl) ?_
      refine gi_nil ?_
      refine gk_then ?_
      refine gc_no rfl ?_
      refine gc_skip ?_
      refine gk_inBlock ?_
      refine gk_perm (L' := [(b3, .cells (encId n).toArray 34 (0, 0))] ++ ((r, iq2) :: (C2 ++ ((Bm, .cells [.map (some b)].toArray 80 (0, 0)) :: (b, ob) :: LB)))) (by haveI : DecidableEq (Nat × Obj) := fun _ _ => Classical.propDecidable _; rw [List.perm_iff_count]; intro a; simp only [List.count_append, List.count_cons, List.count_nil]; ac_rfl) ?_
      refine gk_drop (L' := (r, iq2) :: (C2 ++ ((Bm, .cells [.map (some b)].toArray 80 (0, 0)) :: (b, ob) :: LB))) (List.sublist_append_right _ _) ?_
      exact gk_round ⟨xs ++ [n], C2, iq2, cnt2⟩ hlt ⟨rfl, rfl, hJ2, hI2⟩ (by repeat (first | exact Subs.nil | refine Subs.cons rfl ?_))
    · have hpm := hdone hc0
      refine gc_exit ?_
      refine gk_exit_then ?_
      refine gk_exit_then ?_
      refine gk_here ?_
      refine gk_result (L' := C ++ ((Bm, .cells [.map (some b)].toArray 80 (0, 0)) :: (b, ob) :: LB)) (.inr rfl) _ (res0 rfl) (by repeat (first | exact List.Sublist.refl _ | apply List.Sublist.cons_cons | apply List.Sublist.cons | apply List.Sublist.append (List.Sublist.refl _) | refine List.Sublist.trans ?_ (List.sublist_append_right _ _))) (by first | exact Gh.le_refl _ | assumption | exact Gh.le_trans (by assumption) (by assumption)) ?_
      exact ⟨xs, C, hpm, hJ, rfl, rfl⟩
theorem keys_cc (H : Gh) (L : Chunks) (v : Value) (hv : v.oneCell' = true) :
    CC Tryd.prog 49 #[v] H L (fun u H' L' => ∃ Bm, u = .func (.func 75) #[] #[pt Bm 0] ∧ H = H' ∧ (Bm, .cells [v].toArray 80 (0, 0)) :: L = L') := by
  refine cc_of Tryd.func49 rfl (Nat.le_of_ble_eq_true rfl) ?_
  simp only [Tryd.ntmps49]
  refine gc_seq ?_
  refine gc_seqr [(.nm, 0), (.mv, 1)] rfl ?_
  refine gr_nx rfl rfl rfl (nx_box rfl (one_cells hv)) ?_; rintro _ _ _ _ ⟨b1, rfl, rfl, rfl⟩; refine ⟨trivial, ?_⟩
  refine gr_rd rfl rfl rfl (rd_assign rfl) ?_
  refine gr_nil ?_
  refine gk_then ?_
  refine gc_seq ?_
  refine gc_seqr [(.mv, 0), (.mv, 1)] rfl ?_
  refine gr_rd rfl rfl rfl (rd_makeFunc1 rfl) ?_
  refine gr_rd rfl rfl rfl (rd_assign rfl) ?_
  refine gr_nil ?_
  refine gk_then ?_
  refine gc_ret ?_
  refine gk_result (L' := (b1, .cells [v].toArray 80 (0, 0)) :: L) (.inl rfl) _ (res1 rfl rfl) (by repeat (first | exact List.Sublist.refl _ | apply List.Sublist.cons_cons | apply List.Sublist.cons | apply List.Sublist.append (List.Sublist.refl _) | refine List.Sublist.trans ?_ (List.sublist_append_right _ _))) (by first | exact Gh.le_refl _ | assumption | exact Gh.le_trans (by assumption) (by assumption)) ?_
  exact ⟨b1, rfl, rfl, rfl⟩

def apRec (As Bs : Code) (fn : FuncId) (tm : Array Value) (D : Nat) (st : LoopState) : Loop := { state := st, pending := none, fn, tmps := tm, params := #[7], assign := As, body := Bs, defers := D }
def ApJ (As Bs : Code) (b2 lp D : Nat) (fn : FuncId) (tm : Array Value) (xs : List Nm) (C : Chunks) : Prop :=
  ∃ v Cv, C = (b2, .cells [v].toArray 29 (0, 0)) :: (lp, .loop (apRec As Bs fn tm D .ready)) :: (D, .deferred (some [])) :: Cv ∧ Ow 34 32 Cv v xs.length (xs.flatMap encId)
theorem wpIn_of_eq {F : Fence} {n : Nat} {P : Program} {Q : Exit → Act → World → Prop} {a : Act} {w : World} {c c' : Code} (h : c = c') (hw : c'.wpIn F n P Q a w) : c.wpIn F n P Q a w := h ▸ hw
set_option maxHeartbeats 2000000 in
theorem append_cc (H : Gh) (LB : Chunks) {Bm b : Nat} {ob : Obj} {m : List (Nm × Value)} (hM : MapO ob m) (hN : m.length < 16777216) :
    CC Tryd.prog 95 #[nilS, .func (.func 75) #[] #[pt Bm 0]] H ((Bm, .cells [.map (some b)].toArray 80 (0, 0)) :: (b, ob) :: LB) (fun v H' L' => ∃ (xs : List Nm) (C : Chunks), xs.Perm (m.map (·.1)) ∧ Ow 34 32 C v xs.length (xs.flatMap encId) ∧ H = H' ∧ C ++ ((Bm, .cells [.map (some b)].toArray 80 (0, 0)) :: (b, ob) :: LB) = L') := by
  intro w hS
  refine callsIn_wide.1 (callsIn_of_wp_marks (F := Fence.wide) (n := 2) Tryd.func95 rfl trivial (wpIn_wide.2 ?_) rfl)
  simp only [Tryd.ntmps95]
  refine (?_ : GC Tryd.prog _ _ 13 (argEnv 0 [nilS, .func (.func 75) #[] #[pt Bm 0]]) H _) _ w (at_args (Nat.le_of_ble_eq_true rfl)) hS
  refine gc_seq ?_
  refine gc_seqr [(.nm, 0), (.mv, 1)] rfl ?_
  refine gr_nx rfl rfl rfl (nx_box (l := [nilS]) rfl rfl) ?_; rintro _ _ _ _ ⟨b2, rfl, rfl, rfl⟩; refine ⟨trivial, ?_⟩
  refine gr_rd rfl rfl rfl (rd_assign rfl) ?_
  refine gr_nil ?_
  refine gk_then ?_
  refine gc_seq ?_
  refine gc_seq ?_
  refine gc_seqr [(.mv, 0)] rfl ?_
  refine gr_rd rfl rfl rfl (rd_move rfl) ?_
  refine gr_nil ?_
  refine gk_then ?_
  refine gc_block ?_
  refine gc_sub (E' := [(2, pt b2 0), (6, .func (.func 75) #[] #[pt Bm 0])]) (by repeat (first | exact Subs.nil | refine Subs.cons rfl ?_)) ?_
  refine gc_rf_open fun As Bs hAs hBs => ?_
  rintro ⟨tm, df⟩ w1 hA hS1
  obtain rfl : df = [] := hA.defers
  refine (wpIn_wide (n := 2)).1 (wpIn_rangeFunc ?_)
  intro fn _
  obtain ⟨D, hD⟩ : ∃ D, w1.heap.size = D := ⟨_, rfl⟩
  obtain ⟨lp, hlp⟩ : ∃ lp, w1.heap.size + 1 = lp := ⟨_, rfl⟩
  obtain ⟨W1, hW1⟩ : ∃ W1, (w1.alloc (.deferred (some []))).alloc (.loop (apRec As Bs fn tm D .ready)) = W1 := ⟨_, rfl⟩
  have hsW : Sat W1 H ((lp, .loop (apRec As Bs fn tm D .ready)) :: (D, .deferred (some [])) :: (b2, .cells [nilS].toArray 29 (0, 0)) :: ((Bm, .cells [.map (some b)].toArray 80 (0, 0)) :: (b, ob) :: LB)) := by
    rw [← hW1, ← hlp, ← hD]
    have h1 := (hS1.new (.deferred (some [])))
    have h2 := h1.new (.loop (apRec As Bs fn tm w1.heap.size .ready))
    have e : (w1.heap.push (.deferred (some []))).size = w1.heap.size + 1 := by simp
    simp only [e] at h2
    exact h2
  have hJ0 : ApJ As Bs b2 lp D fn tm [] [(b2, .cells [nilS].toArray 29 (0, 0)), (lp, .loop (apRec As Bs fn tm D .ready)), (D, .deferred (some []))] := ⟨nilS, [], rfl, Ow.nil⟩
  have hround : ∀ pre x C (L0 : Chunks) w, pre.length < m.length → ApJ As Bs b2 lp D fn tm pre C → Sat w H (C ++ L0) → YieldAt Fence.wide 0 Tryd.prog lp #[ag (encId x)] w fun e w' => e = .returned (.bool true) ∧ ∃ C', ApJ As Bs b2 lp D fn tm (pre ++ [x]) C' ∧ Sat w' H (C' ++ L0) := by
    rintro pre x _ L0 w hlen ⟨v, Cv, rfl, hO⟩ hS
    have hl : w.heap[lp]? = some (.loop (apRec As Bs fn tm D .ready)) := (hS.own (lp, .loop (apRec As Bs fn tm D .ready)) (by simp)).1
    refine ⟨fn, _, As, Bs, by simpa [apRec] using run_yield (P := Tryd.prog) (args := #[ag (encId x)]) hl rfl, roundIn_of_wpIn trivial ?_⟩
    have hA0 : At ⟨tm, []⟩ 13 [(2, pt b2 0), (6, .func (.func 75) #[] #[pt Bm 0])] := ⟨rfl, hA.size, hA.get⟩
    have hA1 : At ⟨tm.setIfInBounds 7 (ag (encId x)), []⟩ 13 [(7, ag (encId x)), (2, pt b2 0), (6, .func (.func 75) #[] #[pt Bm 0])] := hA0.put (d := 7) (by decide) (ag (encId x))
    have key : ∀ (ops : List Oper) (F' : Fence) (Q' : Exit → Act → World → Prop) (E' : Env) (L' : Chunks) (a' : Act) (w' : World) (id : Nat), GI F' 0 Tryd.prog ops.toArray Q' 13 E' ops H L' → At a' 13 E' → Sat w' H L' → (Code.region id ops.toArray false).wpIn F' 0 Tryd.prog Q' a' w' := fun ops F' Q' E' L' a' w' id h h1 h2 => wpIn_region_lit (h a' w' h1 h2)
    refine wpIn_of_eq hAs ?_
    refine key _ _ _ _ _ _ _ _ ?_ hA1 hS
    refine gi_ny ⟨fun _ _ _ => rfl, fun _ h => by cases h⟩ rfl (ny_alloc Tryd.zeroValue34 rfl) ?_; rintro _ _ _ _ ⟨b5, rfl, rfl, rfl⟩
    refine gi_ny0 ⟨fun _ _ _ => rfl, fun _ h => by cases h⟩ (ny_store (vs := encId x) Tryd.sizeOf34 rfl rfl rfl (encId_length _) Upd.here (by simp) (encId_ones _)) ?_; rintro _ _ _ _ ⟨rfl, rfl, rfl⟩
    rw [wr_all (by simp)]
    refine gi_nil ?_
    intro a1 w2 hA2 hS1
    have hl1 : w2.heap[lp]? = some (.loop (apRec As Bs fn tm D .ready)) := (hS1.own (lp, .loop (apRec As Bs fn tm D .ready)) (by simp)).1
    have hS2 := Sat.putObj hS1 (i := 2) rfl (.loop (apRec As Bs fn tm D .busy))
    refine ⟨w2.putObj lp (.loop (apRec As Bs fn tm D .busy)), run_beginRound hl1 rfl, ?_⟩
    refine wpIn_of_eq hBs ?_
    refine wpIn_block ?_
    refine key _ _ _ _ ((b5, .cells (encId x).toArray 34 (0, 0)) :: (b2, .cells [v].toArray 29 (0, 0)) :: (lp, .loop (apRec As Bs fn tm D .busy)) :: (D, .deferred (some [])) :: (Cv ++ L0)) _ _ _ ?_ hA2 hS2
    refine gi_rd (v := v) ⟨fun _ _ _ => rfl, fun _ h => by cases h⟩ rfl (rd_load1 Tryd.to29 rfl (Cells.own (l := [v]) (T := 29) (z := (0, 0)) (by simp)) rfl) ?_
    refine gi_rd (v := ag (encId x)) ⟨fun _ _ _ => rfl, fun _ h => by cases h⟩ rfl (rd_loadA Tryd.ta34 rfl (Cells.own List.mem_cons_self) (Seg.all _) (encId_length _)) ?_
    refine gi_ny ⟨fun _ _ _ => rfl, fun _ h => by cases h⟩ rfl (ny_sliceA1 Tryd.underlying29 Tryd.sizeOf34 Tryd.zeroValue34 rfl rfl rfl (encId_length _) rfl) ?_; rintro _ _ _ _ ⟨b10, rfl, rfl, rfl⟩
    refine gi_ny ⟨fun _ _ _ => rfl, fun _ h => by cases h⟩ rfl (ny_append (m := 1) Tryd.app29_29 rfl rfl hO (Pick.there (Pick.there (Pick.there (Pick.there (Pick.there Pick.here))))) (src_slice (b := b10) (o := 0) (l := encId x) (m := 1) (by simp) (encId_ones _) (fun h => by cases h) (fun _ _ => ⟨rfl, Cells.own List.mem_cons_self, Seg.all _⟩)) (by omega) (by omega)) ?_; rintro v11 _ _ _ ⟨C2, hO2, _, rfl, rfl⟩
    refine gi_ny0 ⟨fun _ _ _ => rfl, fun _ h => by cases h⟩ (ny_store (vs := [v11]) Tryd.sizeOf29 rfl rfl (cells1 (Ow.one hO2)) rfl (Upd.app (Upd.there (Upd.there Upd.here))) (by simp) (oneCells_cons (Ow.one hO2) oneCells_nil)) ?_; rintro _ _ _ _ ⟨rfl, rfl, rfl⟩
    refine gi_nil ?_
    intro a3 w3 _ hS3
    have hS4 := hS3.perm (L' := (b10, .cells (encId x).toArray 34 (0, 0)) :: (b5, .cells (encId x).toArray 34 (0, 0)) :: (lp, .loop (apRec As Bs fn tm D .busy)) :: (b2, .cells [v11].toArray 29 (0, 0)) :: (D, .deferred (some [])) :: (C2 ++ L0)) (by haveI : DecidableEq (Nat × Obj) := fun _ _ => Classical.propDecidable _; rw [List.perm_iff_count]; intro a; simp only [List.count_append, List.count_cons, List.count_nil]; ac_rfl)
    have hS5 := hS4.tail.tail
    have hl3 : w3.heap[lp]? = some (.loop (apRec As Bs fn tm D .busy)) := (hS5.own _ List.mem_cons_self).1
    have hS6 := Sat.putObj hS5 (i := 0) rfl (.loop (apRec As Bs fn tm D .ready))
    refine ⟨_, w3.putObj lp (.loop (apRec As Bs fn tm D .ready)), run_endRound none hl3, rfl, (b2, .cells [v11].toArray 29 (0, 0)) :: (lp, .loop (apRec As Bs fn tm D .ready)) :: (D, .deferred (some [])) :: C2, ⟨v11, C2, rfl, by simpa using hO2⟩, ?_⟩
    exact hS6.perm (List.Perm.swap _ _ _)
  have hgo := keysGo_cc (Bm := Bm) (b := b) H LB hM (ApJ As Bs b2 lp D fn tm) hround _ hJ0 W1 (hsW.perm (by haveI : DecidableEq (Nat × Obj) := fun _ _ => Classical.propDecidable _; rw [List.perm_iff_count]; intro a; simp only [List.count_append, List.count_cons, List.count_nil]; ac_rfl))
  refine ⟨lp, [{ target := .collected D, args := #[] }], W1, { target := .fn (.func 75) #[pt Bm 0], args := #[.func (.yield lp) #[] #[]] }, W1, 75, #[.func (.yield lp) #[] #[]] ++ #[pt Bm 0], W1, ?_, ?_, ?_, ?_, fun _ => (by decide), ?_⟩
  · rw [← hW1, ← hlp, ← hD]; exact run_enterLoop_outer _ _ _ _ _
  · simp [resolve, rangeCall, hA.ev (x := .tmp 6) rfl, Deferred.ofValue]
    rfl
  · intro f' _; trivial
  · have := Tryd.en75 (#[.func (.yield lp) #[] #[]] ++ #[pt Bm 0]) W1
    simpa [invoke] using this
  · refine (callsIn_wide.2 hgo).mono ?_
    rintro e w2 ⟨v0, H', L', rfl, _, hs2, xs, C, hpm, ⟨v, Cv, rfl, hO⟩, rfl, rfl⟩
    have hl2 : w2.heap[lp]? = some (.loop (apRec As Bs fn tm D .ready)) := (hs2.own (lp, .loop (apRec As Bs fn tm D .ready)) (by simp)).1
    have hs3 : Sat _ H ((b2, .cells [v].toArray 29 (0, 0)) :: (lp, .loop (apRec As Bs fn tm D .exhausted)) :: (D, .deferred (some [])) :: (Cv ++ ((Bm, .cells [.map (some b)].toArray 80 (0, 0)) :: (b, ob) :: LB))) := Sat.putObj hs2 (i := 1) rfl (.loop (apRec As Bs fn tm D .exhausted))
    refine ⟨none, w2.putObj lp (.loop (apRec As Bs fn tm D .exhausted)), run_endLoop hl2 (by simp [apRec]), ?_⟩
    simp only [Exit.inBlock, Exit.then]
    have hA3 : At ⟨tm, []⟩ 13 [(2, pt b2 0), (6, .func (.func 75) #[] #[pt Bm 0])] := ⟨rfl, hA.size, hA.get⟩
    have hld : Rd Tryd.prog [(2, pt b2 0), (6, .func (.func 75) #[] #[pt Bm 0])] H [(b2, .cells [v].toArray 29 (0, 0))] (.load 29 (.tmp 2)) 29 v := rd_load1 Tryd.to29 rfl (Cells.own (l := [v]) (T := 29) (z := (0, 0)) List.mem_cons_self) rfl
    refine wp_seq (wp_region_seq [(.mv, 0), (.mv, 1)] rfl ?_)
    refine ⟨v, fun w' hw' => ?_, ?_⟩
    · cases hw'
      exact hld ⟨tm, []⟩ _ 13 hA3 (hs3.sub (Gh.le_refl _) (List.Sublist.cons_cons _ (List.nil_sublist _)))
    refine ⟨v, fun w' hw' => ?_, ?_⟩
    · have hA4 := hA3.put (d := 12) (by decide) v
      exact (rd_assign (P := Tryd.prog) (E := (12, v) :: _) (H := H) (L := []) (x := .tmp 12) (t := 29) rfl) (({ tmps := tm, defers := [] } : Act).put (some 12) v) w' 13 hA4 (by cases hw'; exact hs3.sub (Gh.le_refl _) (List.nil_sublist _))
    show Exit.then _ _ .normal _ _
    simp only [Exit.then]
    refine wp_ret ?_
    have hs4 := hs3.perm (L' := (D, .deferred (some [])) :: (lp, .loop (apRec As Bs fn tm D .exhausted)) :: (b2, .cells [v].toArray 29 (0, 0)) :: (Cv ++ ((Bm, .cells [.map (some b)].toArray 80 (0, 0)) :: (b, ob) :: LB))) (by haveI : DecidableEq (Nat × Obj) := fun _ _ => Classical.propDecidable _; rw [List.perm_iff_count]; intro a; simp only [List.count_append, List.count_cons, List.count_nil]; ac_rfl)
    have hk : (w2.putObj lp (.loop (apRec As Bs fn tm D .exhausted))).heap[D]? = some (.deferred (some [])) := (hs4.own _ List.mem_cons_self).1
    have hs5 := (Sat.putObj hs4 (i := 0) rfl (.deferred none)).tail.tail.tail
    have hA5 := (hA3.put (d := 12) (by decide) v).put (d := 4) (by decide) v
    refine ⟨by simp, .inl ⟨D, _, rfl, run_takeDeferred hk, ?_⟩⟩
    refine ⟨v, ?_, v, H, _, rfl, Gh.le_refl _, hs5, xs, Cv, hpm, hO, rfl, rfl⟩
    have := (res1 (P := Tryd.prog) (E := (4, v) :: (12, v) :: _) (H := H) (L := []) (fn := Tryd.f95) (t := 4) rfl rfl) _ ((w2.putObj lp (.loop (apRec As Bs fn tm D .exhausted))).putObj D (.deferred none)) 13 hA5 (hs5.sub (Gh.le_refl _) (List.nil_sublist _))
    exact this
end Go.Proofs.YtfhldfjknagidaaDoor

