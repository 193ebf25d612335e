/-
  What each operation gives: new blocks, stores, calls, append.
-/
import Derived.Test.YtfhldfjknagidaaDoorVKe
set_option linter.unusedSimpArgs false
set_option linter.unusedVariables false
namespace Go.VK

/-- Block b is rewritten among the owned ones. -/
inductive Upd (b : Nat) (o o' : Obj) : Chunks → Chunks → Prop where
  | here {L : Chunks} : Upd b o o' ((b, o) :: L) ((b, o') :: L)
  | there {c : Nat × Obj} {L L' : Chunks} : Upd b o o' L L' → Upd b o o' (c :: L) (c :: L')
  | app {C L L' : Chunks} : Upd b o o' L L' → Upd b o o' (C ++ L) (C ++ L')
  | appl {C C' L : Chunks} : Upd b o o' C C' → Upd b o o' (C ++ L) (C' ++ L)
theorem Upd.spec {b : Nat} {o o' : Obj} {L L' : Chunks} (h : Upd b o o' L L') : ∃ k, L[k]? = some (b, o) ∧ L' = L.set k (b, o') := by
  induction h with
  | here => exact ⟨0, rfl, rfl⟩
  | there _ ih => obtain ⟨k, h1, h2⟩ := ih; exact ⟨k + 1, by simpa using h1, by simp [h2]⟩
  | app _ ih =>
    rename_i C L L' _
    obtain ⟨k, h1, h2⟩ := ih
    refine ⟨C.length + k, by rw [List.getElem?_append_right (by omega)]; simpa using h1, ?_⟩
    rw [List.set_append_right _ _ (by omega)]; simp [h2]
  | appl _ ih =>
    rename_i C C' L _
    obtain ⟨k, h1, h2⟩ := ih
    have hk : k < C.length := (List.getElem?_eq_some_iff.1 h1).1
    refine ⟨k, by rw [List.getElem?_append_left hk]; exact h1, ?_⟩
    rw [List.set_append_left _ _ hk, h2]

/-- The blocks C are among L; L' are the others. -/
inductive Pick (C : Chunks) : Chunks → Chunks → Prop where
  | here {L : Chunks} : Pick C (C ++ L) L
  | all : Pick C C []
  | there {c : Nat × Obj} {L L' : Chunks} : Pick C L L' → Pick C (c :: L) (c :: L')
  | app {D L L' : Chunks} : Pick C L L' → Pick C (D ++ L) (D ++ L')
theorem Pick.perm {C L L' : Chunks} (h : Pick C L L') : L.Perm (C ++ L') := by
  induction h with
  | here => exact List.Perm.refl _
  | all => simp
  | there _ ih => exact (ih.cons _).trans List.perm_middle.symm
  | app _ ih =>
    rename_i D L L' _
    refine (ih.append_left D).trans ?_
    rw [← List.append_assoc, ← List.append_assoc]
    exact (List.perm_append_comm).append_right _

theorem Pick.one {b : Nat} {o : Obj} {L : Chunks} : Pick [(b, o)] ((b, o) :: L) L := Pick.here (C := [(b, o)])

section
variable {P : Program} {E : Env} {H : Gh} {L L' : Chunks} {t T T' : TypeId} {x y c : Operand} {v u : Value} {b o : Nat} {k : IntKind} {m q r : Int}

def oneCells (l : List Value) : Prop := ∀ v ∈ l, v.oneCell' = true
theorem oneCells_of_all {l : List Value} (h : l.all (·.oneCell') = true) : oneCells l := fun v hv => List.all_eq_true.1 h v hv
theorem oneCells_nil : oneCells [] := fun v hv => by cases hv
theorem oneCells_cons {l : List Value} (h : v.oneCell' = true) (hl : oneCells l) : oneCells (v :: l) := fun u hu => by
  rcases List.mem_cons.1 hu with rfl | hu
  · exact h
  · exact hl u hu
theorem oneCells_append {l l' : List Value} (h : oneCells l) (h' : oneCells l') : oneCells (l ++ l') := fun u hu => by
  rcases List.mem_append.1 hu with hu | hu
  · exact h u hu
  · exact h' u hu
theorem oneCells_bytes (l : List UInt8) : oneCells (l.map u8v) := fun u hu => by
  obtain ⟨b, _, rfl⟩ := List.mem_map.1 hu; rfl
theorem oneCells_rep (n : Nat) (h : v.oneCell' = true) : oneCells (List.replicate n v) := fun u hu => by
  rw [(List.mem_replicate.1 hu).2]; exact h

/-! ## New blocks -/

theorem nx_box {l : List Value} (hx : ev E x = some v) (hv : v.cells = l.toArray) : Nx P E H L (.box T x) t (fun u H' L' => ∃ b, u = pt b 0 ∧ H = H' ∧ L' = (b, .cells l.toArray T (0, 0)) :: L) := by
  rw [← hv]
  exact Nx.of_run fun a w n hA hS => ⟨.value (pt w.heap.size 0), { w with heap := w.heap.push (.cells v.cells T (0, 0)) }, H, _, _, by
    simp [execOp, hA.ev hx, Instr.box, newVar, newRow], .inl rfl, Gh.le_refl _, hS.new _, w.heap.size, rfl, rfl, rfl⟩
theorem nx_alloc {z : Value} {l : List Value} (hz : ∀ w, (zeroValue T).run P w = .ok z w) (hv : z.cells = l.toArray) : Nx P E H L (.alloc T) t (fun u H' L' => ∃ b, u = pt b 0 ∧ H = H' ∧ L' = (b, .cells l.toArray T (0, 0)) :: L) := by
  rw [← hv]
  exact Nx.of_run fun a w n hA hS => ⟨.value (pt w.heap.size 0), { w with heap := w.heap.push (.cells z.cells T (0, 0)) }, H, _, _, by
    simp [execOp, Instr.alloc, hz, newVar, newRow], .inl rfl, Gh.le_refl _, hS.new _, w.heap.size, rfl, rfl, rfl⟩
theorem ny_alloc {z : Value} {l : List Value} (hz : ∀ w, (zeroValue T).run P w = .ok z w) (hv : z.cells = l.toArray) : Ny P E H L (.alloc T) t (fun u H' L' => ∃ b, u = pt b 0 ∧ H = H' ∧ L' = (b, .cells l.toArray T (0, 0)) :: L) := by
  rw [← hv]
  exact fun a w n hA hS => ⟨.value (pt w.heap.size 0), { w with heap := w.heap.push (.cells z.cells T (0, 0)) }, H, _, _, by
    simp [execOp, Instr.alloc, hz, newVar, newRow], .inl rfl, Gh.le_refl _, hS.new _, w.heap.size, rfl, rfl, rfl⟩
theorem nx_makeMap : Nx P E H L (.makeMap T none) t (fun u H' L' => ∃ b, u = .map (some b) ∧ H = H' ∧ L' = (b, .map #[] 0) :: L) :=
  Nx.of_run fun a w n hA hS => ⟨.value (.map (some w.heap.size)), { w with heap := w.heap.push (.map #[] 0) }, H, _, _, by
    simp [execOp, Instr.makeMap], .inl rfl, Gh.le_refl _, hS.new _, w.heap.size, rfl, rfl, rfl⟩

/-! ## Stores -/
theorem setRow_get {w : World} {g i : Nat} {cs : Array Value} (h : i ≠ g) : (w.setRow g cs).heap[i]? = w.heap[i]? := by
  simp only [World.setRow, Array.getElem?_modify]
  rw [if_neg (fun e => h e.symm)]

/-- l with vs written from o on. -/
def wr (l : List Value) (o : Nat) (vs : List Value) : List Value := l.take o ++ vs ++ l.drop (o + vs.length)

theorem sat_storeCells {w : World} {l vs : List Value} (hS : Sat w H L) (hu : Upd b (.cells l.toArray T (0, 0)) (.cells (wr l o vs).toArray T (0, 0)) L L') (hfit : o + vs.length ≤ l.length) (h1 : oneCells vs) :
    ∃ w', (storeCells ⟨b, o, none⟩ vs).run P w = .ok () w' ∧ Sat w' H L' := by
  obtain ⟨k, hk, rfl⟩ := hu.spec
  have hb := (hS.own _ (List.mem_of_getElem? hk)).1
  have h := run_storeCells_at P b o T vs 0 l.toArray w hb (by simpa using hfit) h1
  refine ⟨_, h, hS.put hk _ rfl rfl (Nat.le_refl _) rfl ?_ (fun i hi => setRow_get hi)⟩
  have := setRow_heap w b l.toArray (l.take o ++ vs ++ l.drop (o + vs.length)).toArray T (0, 0) hb
  simpa [wr] using this

theorem nx_store {l : List Value} {n : Nat} {vs : List Value} (hT : ∀ w, (sizeOf T).run P w = .ok n w) (hx : ev E x = some (pt b o)) (hy : ev E y = some v) (hvs : v.cells.toList = vs) (hn : vs.length = n)
    (hu : Upd b (.cells l.toArray T' (0, 0)) (.cells (wr l o vs).toArray T' (0, 0)) L L') (hfit : o + vs.length ≤ l.length) (h1 : oneCells vs) :
    Nx P E H L (.store T x y) t (fun u H' L'' => u = undef ∧ H = H' ∧ L' = L'') :=
  Nx.of_run fun a w m hA hS => by
    obtain ⟨w', h2, h3⟩ := sat_storeCells (P := P) hS hu hfit h1
    have hsz : v.cells.size = n := by rw [← Array.length_toList, hvs, hn]
    refine ⟨.skip, w', H, L', undef, ?_, .inr ⟨rfl, rfl⟩, Gh.le_refl _, h3, rfl, rfl, rfl⟩
    simp only [execOp, hA.ev hx, hA.ev hy, Instr.storeAt, Instr.sureAddr, storeVar]
    simp only [Sem.run_bind, Sem.run_pure, Result.andThen_ok, hT, hsz, ne_eq, not_true_eq_false, if_false, hvs, h2]

theorem ny_store {l : List Value} {n : Nat} {vs : List Value} (hT : ∀ w, (sizeOf T).run P w = .ok n w) (hx : ev E x = some (pt b o)) (hy : ev E y = some v) (hvs : v.cells.toList = vs) (hn : vs.length = n)
    (hu : Upd b (.cells l.toArray T' (0, 0)) (.cells (wr l o vs).toArray T' (0, 0)) L L') (hfit : o + vs.length ≤ l.length) (h1 : oneCells vs) :
    Ny P E H L (.store T x y) t (fun u H' L'' => u = undef ∧ H = H' ∧ L' = L'') :=
  fun a w m hA hS => by
    obtain ⟨w', h2, h3⟩ := sat_storeCells (P := P) hS hu hfit h1
    have hsz : v.cells.size = n := by rw [← Array.length_toList, hvs, hn]
    refine ⟨.skip, w', H, L', undef, ?_, .inr ⟨rfl, rfl⟩, Gh.le_refl _, h3, rfl, rfl, rfl⟩
    simp only [execOp, hA.ev hx, hA.ev hy, Instr.storeAt, Instr.sureAddr, storeVar]
    simp only [Sem.run_bind, Sem.run_pure, Result.andThen_ok, hT, hsz, ne_eq, not_true_eq_false, if_false, hvs, h2]

/-! ## Calls -/
def evs (E : Env) : List Operand → Option (List Value)
  | [] => some []
  | x :: r => match ev E x, evs E r with
    | some v, some vs => some (v :: vs)
    | _, _ => none
theorem evs_spec {a : Act} {n : Nat} {E : Env} (hA : At a n E) : ∀ (xs : List Operand) (vs : List Value), evs E xs = some vs → xs.map a.eval = vs
  | [], vs, h => by simp [evs] at h; subst h; rfl
  | x :: r, vs, h => by
    simp only [evs] at h
    split at h
    · rename_i v vs' hv hvs
      cases h
      rw [List.map_cons, hA.ev hv, evs_spec hA r vs' hvs]
    · cases h

theorem nx_call {f : FuncId} {xs : List Operand} {ts : Array TypeId} {vs : List Value} {R : Value → Gh → Chunks → Prop} (he : Go.Proofs.Enters P f) (hxs : evs E xs = some vs) (hc : CC P f vs.toArray H L R) :
    Nx P E H L (.call ⟨.value (.func f), xs.toArray, ts⟩) t R := by
  intro a w n K dst hA hS hK
  have e1 : (xs.toArray.map a.eval) = vs.toArray := by rw [List.map_toArray, evs_spec hA xs vs hxs]
  have e2 : (execOp a.eval ⟨dst, .call ⟨.value (.func f), xs.toArray, ts⟩, t, "", #[], none⟩).run P w = .ok (.enter f vs.toArray) w := by
    have := he vs.toArray w
    have e3 : (execOp a.eval ⟨dst, .call ⟨.value (.func f), xs.toArray, ts⟩, t, "", #[], none⟩) = (do let d ← resolve a.eval ⟨.value (.func f), xs.toArray, ts⟩ t; invoke d.target d.args) := rfl
    have e4 : a.eval (.func f) = .func (.func f) #[] #[] := rfl
    rw [e3]
    simp only [resolve, e1, e4, Deferred.ofValue]
    simpa [invoke] using this
  unfold One Oper.wp
  rw [e2]
  simp only [Oper.upon]
  refine (hc w hS).mono fun e w' h => ?_
  obtain ⟨v, H', L', rfl, hH, hs, hR⟩ := h
  exact hK v w' H' L' hH hs hR

/-- A call of a function value. -/
theorem nx_callv {f : FuncId} {fx : Operand} {lb : Array Value} {xs : List Operand} {ts : Array TypeId} {vs : List Value} {R : Value → Gh → Chunks → Prop} (he : Go.Proofs.Enters P f) (hf : ev E fx = some (.func (.func f) #[] lb)) (hxs : evs E xs = some vs)
    (hc : CC P f (vs.toArray ++ lb) H L R) : Nx P E H L (.call ⟨.value fx, xs.toArray, ts⟩) t R := by
  intro a w n K dst hA hS hK
  have e1 : (xs.toArray.map a.eval) = vs.toArray := by rw [List.map_toArray, evs_spec hA xs vs hxs]
  have e2 : (execOp a.eval ⟨dst, .call ⟨.value fx, xs.toArray, ts⟩, t, "", #[], none⟩).run P w = .ok (.enter f (vs.toArray ++ lb)) w := by
    have := he (vs.toArray ++ lb) w
    have e3 : (execOp a.eval ⟨dst, .call ⟨.value fx, xs.toArray, ts⟩, t, "", #[], none⟩) = (do let d ← resolve a.eval ⟨.value fx, xs.toArray, ts⟩ t; invoke d.target d.args) := rfl
    rw [e3]
    simp only [resolve, e1, hA.ev hf, Deferred.ofValue]
    simpa [invoke] using this
  unfold One Oper.wp
  rw [e2]
  simp only [Oper.upon]
  refine (hc w hS).mono fun e w' h => ?_
  obtain ⟨v, H', L', rfl, hH, hs, hR⟩ := h
  exact hK v w' H' L' hH hs hR
end
end Go.VK
