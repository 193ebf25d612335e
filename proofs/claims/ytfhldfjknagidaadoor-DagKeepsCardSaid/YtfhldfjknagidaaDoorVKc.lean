/-
  The rules by which a walk goes: regions, tests, blocks, loops, calls, returns.
-/
import Derived.Test.YtfhldfjknagidaaDoorVKb
set_option linter.unusedSimpArgs false
set_option linter.unusedVariables false
namespace Go.VK
open Region (wanted)

abbrev cl (l : List Value) (T : TypeId) : Obj := .cells l.toArray T (0, 0)
abbrev ag (l : List Value) : Value := .agg l.toArray
abbrev pt (b o : Nat) : Value := .pointer (some ⟨b, o, none⟩)

def baseH (M : Option (Gh × Chunks)) (H : Gh) : Gh :=
  match M with
  | none => H
  | some (H0, _) => H0
def baseL (M : Option (Gh × Chunks)) (L : Chunks) : Chunks :=
  match M with
  | none => L
  | some (_, L0) => L0
/-- What is looked at stands. -/
def KeepsG (M : Option (Gh × Chunks)) (H : Gh) (L : Chunks) : Prop :=
  match M with
  | none => True
  | some (H0, L0) => H0 ≤ H ∧ L0.Sublist L
theorem KeepsG.keeps {M : Option (Gh × Chunks)} {H : Gh} {L : Chunks} {w : World} (h : KeepsG M H L) (hs : Sat w H L) : Keeps M w := by
  match M, h with
  | none, _ => exact trivial
  | some (H0, L0), h => exact hs.sub h.1 h.2

def wantsE (E : Env) (ops : List Oper) : Option (Nat × Bool) → Option Bool
  | none => some true
  | some (j, b) =>
    match (nth ops j).dst with
    | some t =>
      match find E t with
      | some (.bool c) => some (c == b)
      | some (.tuple _) => some false
      | _ => none
    | none => none

theorem blt_lt {a b : Nat} (h : Nat.blt a b = true) : a < b := by simpa using h

theorem nth_getElem? {ops : List Oper} {j : Nat} {t : Nat} (h : (nth ops j).dst = some t) : ops[j]? = some (nth ops j) := by
  cases hj : ops[j]? with
  | some o => rw [nth_eq ops j o hj]
  | none =>
    have : ∀ (l : List Oper) (i : Nat), l[i]? = none → nth l i = default := by
      intro l
      induction l with
      | nil => intro i _; rfl
      | cons o r ih => intro i hi; cases i with
        | zero => simp at hi
        | succ i => exact ih i (by simpa using hi)
    rw [this ops j hj] at h
    cases h

theorem wanted_of {ops : List Oper} {a : Act} {n : Nat} {E : Env} {o : Oper} {b : Bool} (hA : At a n E) (h : wantsE E ops o.guard = some b) : wanted o (yielded ops.toArray a.tmps) = b := by
  unfold wanted
  cases hg : o.guard with
  | none => rw [hg] at h; simpa [wantsE] using h
  | some q =>
    obtain ⟨j, c⟩ := q
    rw [hg] at h
    simp only [wantsE] at h
    split at h
    · rename_i t ht
      split at h
      · rename_i u hu
        simp only [Option.some.injEq] at h
        have hget := hA.get _ _ hu
        have hj := nth_getElem? ht
        have hlt : t < a.tmps.size := by
          rcases Nat.lt_or_ge t a.tmps.size with hx | hx
          · exact hx
          · simp [Array.getElem?_eq_none hx, undef] at hget
        have hg2 : a.tmps[t]? = some (.bool u) := by
          rw [Array.getD_eq_getD_getElem?] at hget
          rw [Array.getElem?_eq_getElem hlt] at hget ⊢
          simpa using hget
        simp only [yielded, List.getElem?_toArray, hj, Option.bind_some, ht, hg2]
        rw [← h]
        cases u <;> cases c <;> rfl
      · rename_i u hu
        simp only [Option.some.injEq] at h
        have hget := hA.get _ _ hu
        have hj := nth_getElem? ht
        subst h
        simp only [yielded, List.getElem?_toArray, hj, Option.bind_some, ht]
        rw [Array.getD_eq_getD_getElem?] at hget
        cases hx : a.tmps[t]? with
        | none => rfl
        | some y => rw [hx] at hget; simp only [Option.getD_some] at hget; subst hget; rfl
      · cases h
    · cases h

section
variable {P : Program} {ops : List Oper} {M : Option (Gh × Chunks)} {Q : Exit → Act → World → Prop} {n : Nat} {E : Env} {r : List (Fl × Nat)} {H : Gh} {L : Chunks}
  {i : Nat} {d : Nat} {dst : Option Nat} {op : Op} {t : TypeId} {p : String} {af : Array Edge} {g : Option (Nat × Bool)} {v : Value}

/-- Whatever is looked at, this comes of it. -/
def Rd (P : Program) (E : Env) (H : Gh) (L : Chunks) (op : Op) (t : TypeId) (v : Value) : Prop :=
  ∀ a w n, At a n E → Sat w H L → (execOp a.eval ⟨none, op, t, "", #[], none⟩).run P w = .ok (.value v) w

/-- It acts, and this comes of it. -/
def Nx (P : Program) (E : Env) (H : Gh) (L : Chunks) (op : Op) (t : TypeId) (R : Value → Gh → Chunks → Prop) : Prop :=
  ∀ a w n K dst, At a n E → Sat w H L → (∀ v w' H' L', H ≤ H' → Sat w' H' L' → R v H' L' → K (a.put dst v) w') → One P ⟨dst, op, t, "", #[], none⟩ K a w

/-- It acts, and this comes of it: as an equation. -/
def Ny (P : Program) (E : Env) (H : Gh) (L : Chunks) (op : Op) (t : TypeId) (R : Value → Gh → Chunks → Prop) : Prop :=
  ∀ a w n, At a n E → Sat w H L → ∃ x w' H' L' v, (execOp a.eval ⟨none, op, t, "", #[], none⟩).run P w = .ok x w' ∧ (x = .value v ∨ (x = .skip ∧ v = undef)) ∧ H ≤ H' ∧ Sat w' H' L' ∧ R v H' L'
theorem Nx.of_run {R : Value → Gh → Chunks → Prop} (h : ∀ a w n, At a n E → Sat w H L → ∃ x w' H' L' v, (execOp a.eval ⟨none, op, t, "", #[], none⟩).run P w = .ok x w' ∧
    (x = .value v ∨ (x = .skip ∧ v = undef)) ∧ H ≤ H' ∧ Sat w' H' L' ∧ R v H' L') : Nx P E H L op t R := by
  intro a w n K dst hA hS hK
  obtain ⟨x, w', H', L', v, h1, h2, h3, h4, h5⟩ := h a w n hA hS
  unfold One Oper.wp
  have e : (execOp a.eval ⟨dst, op, t, "", #[], none⟩).run P w = .ok x w' := h1
  rw [e]
  rcases h2 with rfl | ⟨rfl, rfl⟩
  · exact hK v w' H' L' h3 h4 h5
  · exact hK _ w' H' L' h3 h4 h5

theorem Rd.nx (h : Rd P E H L op t v) : Nx P E H L op t (fun u H' L' => u = v ∧ H = H' ∧ L = L') :=
  Nx.of_run fun a w n hA hS => ⟨.value v, w, H, L, v, h a w n hA hS, .inl rfl, Gh.le_refl _, hS, rfl, rfl, rfl⟩

theorem One.bare {o : Oper} {K : Act → World → Prop} {a : Act} {w : World} (h : One P ⟨o.dst, o.op, o.type, "", #[], none⟩ K a w) : One P o K a w := h

theorem gr_nil (h : GK Q .normal n E H L) : GR P ops M Q n E [] H L := fun a w hA hS => h a w hA hS

theorem gr_rd (ho : nth ops i = ⟨some d, op, t, p, af, g⟩) (hw : wantsE E ops g = some true) (hn : Nat.blt d n = true) (hr : Rd P E (baseH M H) (baseL M L) op t v)
    (h : GR P ops M Q n ((d, v) :: E) r H L) : GR P ops M Q n E ((.mv, i) :: r) H L := by
  intro a w hA hS
  unfold Run
  have hwn : wanted (nth ops i) (yielded ops.toArray a.tmps) = true := wanted_of hA (by rw [ho]; exact hw)
  simp only [hwn, if_true]
  refine ⟨v, fun w' hst => ?_, ?_⟩
  · rw [ho]
    match M, hst, hr with
    | none, hst, hr => cases hst; exact hr a w n hA hS
    | some (H0, L0), hst, hr => exact hr a w' n hA hst
  · rw [ho]; exact h _ w (hA.put (blt_lt hn) v) hS

theorem gr_no (ho : nth ops i = ⟨some d, op, t, p, af, g⟩) (hw : wantsE E ops g = some false) (hn : Nat.blt d n = true) {m : Fl}
    (h : GR P ops M Q n ((d, undef) :: E) r H L) : GR P ops M Q n E ((m, i) :: r) H L := by
  intro a w hA hS
  unfold Run
  have hwn : wanted (nth ops i) (yielded ops.toArray a.tmps) = false := wanted_of hA (by rw [ho]; exact hw)
  simp only [hwn, Bool.false_eq_true, if_false]
  rw [ho]; exact h _ w (hA.put (blt_lt hn) _) hS

theorem gr_no0 (ho : nth ops i = ⟨none, op, t, p, af, g⟩) (hw : wantsE E ops g = some false) {m : Fl}
    (h : GR P ops M Q n E r H L) : GR P ops M Q n E ((m, i) :: r) H L := by
  intro a w hA hS
  unfold Run
  have hwn : wanted (nth ops i) (yielded ops.toArray a.tmps) = false := wanted_of hA (by rw [ho]; exact hw)
  simp only [hwn, Bool.false_eq_true, if_false]
  rw [ho]; exact h _ w hA hS

theorem gr_nx {R : Value → Gh → Chunks → Prop} (ho : nth ops i = ⟨some d, op, t, p, af, g⟩) (hw : wantsE E ops g = some true) (hn : Nat.blt d n = true)
    (hx : Nx P E H L op t R) (h : ∀ v H' L', H ≤ H' → R v H' L' → KeepsG M H' L' ∧ GR P ops M Q n ((d, v) :: E) r H' L') : GR P ops M Q n E ((.nm, i) :: r) H L := by
  intro a w hA hS
  unfold Run
  have hwn : wanted (nth ops i) (yielded ops.toArray a.tmps) = true := wanted_of hA (by rw [ho]; exact hw)
  simp only [hwn, if_true]
  rw [ho]
  refine One.bare ?_
  refine hx a w n _ _ hA hS fun v w' H' L' hH hs hR => ?_
  exact ⟨(h v H' L' hH hR).1.keeps hs, (h v H' L' hH hR).2 _ _ (hA.put (blt_lt hn) v) hs⟩

theorem gr_nx0 {R : Value → Gh → Chunks → Prop} (ho : nth ops i = ⟨none, op, t, p, af, g⟩) (hw : wantsE E ops g = some true)
    (hx : Nx P E H L op t R) (h : ∀ v H' L', H ≤ H' → R v H' L' → KeepsG M H' L' ∧ GR P ops M Q n E r H' L') : GR P ops M Q n E ((.nm, i) :: r) H L := by
  intro a w hA hS
  unfold Run
  have hwn : wanted (nth ops i) (yielded ops.toArray a.tmps) = true := wanted_of hA (by rw [ho]; exact hw)
  simp only [hwn, if_true]
  rw [ho]
  refine One.bare ?_
  refine hx a w n _ _ hA hS fun v w' H' L' hH hs hR => ?_
  exact ⟨(h v H' L' hH hR).1.keeps hs, (h v H' L' hH hR).2 _ _ hA hs⟩

theorem gr_fin {R : Value → Gh → Chunks → Prop} (ho : nth ops i = ⟨some d, op, t, p, af, g⟩) (hw : wantsE E ops g = some true) (hn : Nat.blt d n = true)
    (hx : Nx P E H L op t R) (h : ∀ v H' L', H ≤ H' → R v H' L' → GR P ops M Q n ((d, v) :: E) r H' L') : GR P ops M Q n E ((.fin, i) :: r) H L := by
  intro a w hA hS
  unfold Run
  have hwn : wanted (nth ops i) (yielded ops.toArray a.tmps) = true := wanted_of hA (by rw [ho]; exact hw)
  simp only [hwn, if_true]
  rw [ho]
  refine One.bare ?_
  refine hx a w n _ _ hA hS fun v w' H' L' hH hs hR => ?_
  exact h v H' L' hH hR _ _ (hA.put (blt_lt hn) v) hs

theorem gr_fin0 {R : Value → Gh → Chunks → Prop} (ho : nth ops i = ⟨none, op, t, p, af, g⟩) (hw : wantsE E ops g = some true)
    (hx : Nx P E H L op t R) (h : ∀ v H' L', H ≤ H' → R v H' L' → GR P ops M Q n E r H' L') : GR P ops M Q n E ((.fin, i) :: r) H L := by
  intro a w hA hS
  unfold Run
  have hwn : wanted (nth ops i) (yielded ops.toArray a.tmps) = true := wanted_of hA (by rw [ho]; exact hw)
  simp only [hwn, if_true]
  rw [ho]
  refine One.bare ?_
  refine hx a w n _ _ hA hS fun v w' H' L' hH hs hR => ?_
  exact h v H' L' hH hR _ _ hA hs

/-- Where what is behind hangs on a bool: both ways. -/
theorem gr_split {b : Bool} {E0 : Env} (hE : E = (d, .bool b) :: E0) (ht : b = true → GR P ops M Q n ((d, .bool true) :: E0) r H L) (hf : b = false → GR P ops M Q n ((d, .bool false) :: E0) r H L) :
    GR P ops M Q n E r H L := by
  subst hE
  cases b
  · exact hf rfl
  · exact ht rfl
theorem gr_sub {E' : Env} (hs : Subs E E') (h : GR P ops M Q n E' r H L) : GR P ops M Q n E r H L := fun a w hA hS => h a w (hA.sub hs) hS

/-! ## Code -/
variable {c x y : Code} {id : Nat}
theorem gc_seq (h : GC P x (Exit.then (y.wp P Q) Q) n E H L) : GC P (.seq x y) Q n E H L := fun a w hA hS => wp_seq (h a w hA hS)
theorem gk_then (h : GC P y Q n E H L) {Q' : Exit → Act → World → Prop} : GK (Exit.then (y.wp P Q) Q') .normal n E H L := fun a w hA hS => h a w hA hS
theorem gc_skip (h : GK Q .normal n E H L) : GC P .skip Q n E H L := fun a w hA hS => wp_skip (h a w hA hS)
theorem gc_ret (h : GK Q .ret n E H L) : GC P .ret Q n E H L := fun a w hA hS => wp_ret (h a w hA hS)
theorem gc_exit (h : GK Q (.exit id) n E H L) : GC P (.exit id) Q n E H L := fun a w hA hS => wp_exit (h a w hA hS)
theorem gc_block (h : GC P c (Exit.inBlock id Q) n E H L) : GC P (.block id c) Q n E H L := fun a w hA hS => wp_block (h a w hA hS)
theorem gk_inBlock (h : GK Q .normal n E H L) : GK (Exit.inBlock id Q) .normal n E H L := h
theorem gk_here (h : GK Q .normal n E H L) : GK (Exit.inBlock id Q) (.exit id) n E H L := fun a w hA hS => by
  simp only [Exit.inBlock, if_true]; exact h a w hA hS
theorem gk_there {id' : Nat} (hne : Nat.beq id' id = false) (h : GK Q (.exit id') n E H L) : GK (Exit.inBlock id Q) (.exit id') n E H L := fun a w hA hS => by
  have : id' ≠ id := fun e => by subst e; simp at hne
  simp only [Exit.inBlock, if_neg this]; exact h a w hA hS
theorem gk_ret_inBlock (h : GK Q .ret n E H L) : GK (Exit.inBlock id Q) .ret n E H L := h
theorem gk_ret_then {K : Act → World → Prop} (h : GK Q .ret n E H L) : GK (Exit.then K Q) .ret n E H L := h
theorem gk_exit_then {K : Act → World → Prop} (h : GK Q (.exit id) n E H L) : GK (Exit.then K Q) (.exit id) n E H L := h

theorem gc_cond {c : Operand} {u : Bool} (hc : ev E c = some (.bool u)) (ht : u = true → GC P x Q n E H L) (hf : u = false → GC P y Q n E H L) : GC P (.cond c x y) Q n E H L :=
  fun a w hA hS => wp_cond_split (hA.ev hc) (fun e => ht e a w hA hS) (fun e => hf e a w hA hS)
theorem gc_yes {c : Operand} (hc : ev E c = some (.bool true)) (h : GC P x Q n E H L) : GC P (.cond c x y) Q n E H L :=
  fun a w hA hS => wp_cond_true (hA.ev hc) (h a w hA hS)
theorem gc_no {c : Operand} (hc : ev E c = some (.bool false)) (h : GC P y Q n E H L) : GC P (.cond c x y) Q n E H L :=
  fun a w hA hS => wp_cond_false (hA.ev hc) (h a w hA hS)

theorem gc_seqr (sch : List (Fl × Nat)) {ops : List Oper} (hs : (sch.map fun p => p.2) = List.range ops.length) (h : GR P ops none Q n E sch H L) :
    GC P (.region id ops.toArray false) Q n E H L := fun a w hA hS => wp_region_seq sch hs (h a w hA hS)
theorem gc_draw (hm : P.follows .mixedOrders = true) (sch : List (Fl × Nat)) {ops : List Oper} (hs : schOk ops sch = true) (L0 : Chunks) (hL : L0.Sublist L)
    (h : GR P ops (some (H, L0)) Q n E sch H L) : GC P (.region id ops.toArray true) Q n E H L := fun a w hA hS =>
  wp_region_sch hm sch hs H L0 (hS.drew.sub (Gh.le_refl _) hL) (h a _ hA hS.drew)

theorem gc_draw2 (hm : P.follows .mixedOrders = true) (pre : List (Fl × Nat)) (x y : Nat) (rest : List (Fl × Nat)) {ops : List Oper} (hs : schOk2 ops pre x y rest = true) (L0 : Chunks) (hL : L0.Sublist L)
    (h1 : GR P ops (some (H, L0)) Q n E (pre ++ (.nm, x) :: (.nm, y) :: rest) H L) (h2 : GR P ops (some (H, L0)) Q n E (pre ++ (.nm, y) :: (.nm, x) :: rest) H L) : GC P (.region id ops.toArray true) Q n E H L := fun a w hA hS =>
  wp_region_sch2 hm pre x y rest hs H L0 (hS.drew.sub (Gh.le_refl _) hL) (h1 a _ hA hS.drew) (h2 a _ hA hS.drew)
theorem gc_draw3 (hm : P.follows .mixedOrders = true) (pre : List (Fl × Nat)) (x y : Nat) (rest rA rB : List (Fl × Nat)) {ops : List Oper} (hs : schOk3 ops pre x y rest rA rB = true) (L0 : Chunks) (hL : L0.Sublist L)
    (h1 : GR P ops (some (H, L0)) Q n E (pre ++ (.nm, x) :: rA) H L) (h2 : GR P ops (some (H, L0)) Q n E (pre ++ (.nm, y) :: rB) H L) : GC P (.region id ops.toArray true) Q n E H L := fun a w hA hS =>
  wp_region_sch3 hm pre x y rest rA rB hs H L0 (hS.drew.sub (Gh.le_refl _) hL) (h1 a _ hA hS.drew) (h2 a _ hA hS.drew)
theorem gc_sub {E' : Env} (hs : Subs E E') (h : GC P c Q n E' H L) : GC P c Q n E H L := fun a w hA hS => h a w (hA.sub hs) hS
theorem gc_drop {L' : Chunks} (hs : L'.Sublist L) (h : GC P c Q n E H L') : GC P c Q n E H L := fun a w hA hS => h a w hA (hS.sub (Gh.le_refl _) hs)
theorem gc_perm {L' : Chunks} (hs : L.Perm L') (h : GC P c Q n E H L') : GC P c Q n E H L := fun a w hA hS => h a w hA (hS.perm hs)
theorem gk_sub {e : Exit} {E' : Env} (hs : Subs E E') (h : GK Q e n E' H L) : GK Q e n E H L := fun a w hA hS => h a w (hA.sub hs) hS
theorem gk_drop {e : Exit} {L' : Chunks} (hs : L'.Sublist L) (h : GK Q e n E H L') : GK Q e n E H L := fun a w hA hS => h a w hA (hS.sub (Gh.le_refl _) hs)
theorem gk_perm {e : Exit} {L' : Chunks} (hs : L.Perm L') (h : GK Q e n E H L') : GK Q e n E H L := fun a w hA hS => h a w hA (hS.perm hs)
theorem gc_seal {b : Nat} {o : Obj} (h : ∀ H', H ≤ H' → H.imm b = none → H'.imm b = some o → GC P c Q n E H' L) : GC P c Q n E H ((b, o) :: L) := fun a w hA hS =>
  h (H.add b o) (Gh.le_add hS.free) hS.free (Gh.add_self b o) a w hA hS.fixed
theorem gk_seal {e : Exit} {b : Nat} {o : Obj} (h : ∀ H', H ≤ H' → H.imm b = none → H'.imm b = some o → GK Q e n E H' L) : GK Q e n E H ((b, o) :: L) := fun a w hA hS =>
  h (H.add b o) (Gh.le_add hS.free) hS.free (Gh.add_self b o) a w hA hS.fixed
theorem gr_seal {b : Nat} {o : Obj} (h : ∀ H', H ≤ H' → H.imm b = none → H'.imm b = some o → GR P ops M Q n E r H' L) : GR P ops M Q n E r H ((b, o) :: L) := fun a w hA hS =>
  h (H.add b o) (Gh.le_add hS.free) hS.free (Gh.add_self b o) a w hA hS.fixed
theorem gr_perm {L' : Chunks} (hs : L.Perm L') (h : GR P ops M Q n E r H L') : GR P ops M Q n E r H L := fun a w hA hS => h a w hA (hS.perm hs)
theorem gr_drop {L' : Chunks} (hs : L'.Sublist L) (h : GR P ops M Q n E r H L') : GR P ops M Q n E r H L := fun a w hA hS => h a w hA (hS.sub (Gh.le_refl _) hs)

/-- A cut: whatever comes, what is behind needs R alone. -/
theorem gc_cut {α : Type} (EE : α → Env) (R : α → Gh → Chunks → Prop) (hx : GC P x (Exit.then (fun a w => ∃ s H' L', R s H' L' ∧ At a n (EE s) ∧ Sat w H' L') Q) n E H L)
    (hy : ∀ s H' L', R s H' L' → GC P y Q n (EE s) H' L') : GC P (.seq x y) Q n E H L := fun a w hA hS =>
  wp_seq (wp_mono (hx a w hA hS) fun e a' w' h => by
    cases e <;> first
      | (obtain ⟨s, H', L', h1, h2, h3⟩ := h; exact hy s H' L' h1 a' w' h2 h3)
      | exact h)
theorem gk_cut {α : Type} {EE : α → Env} {R : α → Gh → Chunks → Prop} (s : α) (hR : R s H L) (hs : Subs E (EE s)) :
    GK (Exit.then (fun a w => ∃ s H' L', R s H' L' ∧ At a n (EE s) ∧ Sat w H' L') Q) .normal n E H L := fun _ _ hA hS => ⟨s, H, L, hR, hA.sub hs, hS⟩

/-! ## Loops -/
theorem gc_loop {α : Type} (EE : α → Env) (R : α → Gh → Chunks → Prop) (μ : α → Nat) (s0 : α) (h0 : R s0 H L) (hs0 : Subs E (EE s0))
    (round : ∀ s H1 L1, R s H1 L1 → GC P c (Exit.then (fun a w => ∃ s' H' L', μ s' < μ s ∧ R s' H' L' ∧ At a n (EE s') ∧ Sat w H' L') Q) n (EE s) H1 L1) :
    GC P (.loop c) Q n E H L := by
  intro a w hA hS b k cs
  have key : ∀ m s H1 L1 a w, μ s = m → R s H1 L1 → At a n (EE s) → Sat w H1 L1 →
      ∃ e a' w', Q e a' w' ∧ Arrives P (lone (b.at a (.code c :: .inLoop c :: k)) cs w) b k cs e a' w' := by
    intro m
    induction m using Nat.strongRecOn with
    | _ m ih =>
      intro s H1 L1 a w hm hR hA hS
      obtain ⟨e, a₁, w₁, hq, harr⟩ := round s H1 L1 hR a w hA hS b (.inLoop c :: k) cs
      cases e with
      | normal =>
        obtain ⟨s', H', L', hlt, hR', hA', hS'⟩ := hq
        obtain ⟨e₂, a₂, w₂, hq₂, harr₂⟩ := ih (μ s') (hm ▸ hlt) s' H' L' a₁ w₁ rfl hR' hA' hS'
        exact ⟨e₂, a₂, w₂, hq₂, .of_steps (Steps.trans harr (.one step_inLoop)) harr₂⟩
      | exit id => exact ⟨_, a₁, w₁, hq, .pass (x := .inLoop c) rfl (fun _ _ => .inl (by simp)) harr⟩
      | goto l => exact ⟨_, a₁, w₁, hq, .pass (x := .inLoop c) rfl (fun _ _ => .inl (by simp)) harr⟩
      | ret => exact ⟨_, a₁, w₁, hq, .pass (x := .inLoop c) rfl (fun _ _ => .inl (by simp)) harr⟩
      | panic ch => exact ⟨_, a₁, w₁, hq, .pass (x := .inLoop c) rfl (fun _ _ => .inl (by simp)) harr⟩
      | outgrown => exact ⟨_, a₁, w₁, hq, .pass (x := .inLoop c) rfl (fun _ _ => .inl (by simp)) harr⟩
  obtain ⟨e, a', w', hq, harr⟩ := key _ s0 H L a w rfl h0 (hA.sub hs0) hS
  exact ⟨e, a', w', hq, .of_steps (.one step_loop) harr⟩
theorem gk_round {α : Type} {EE : α → Env} {R : α → Gh → Chunks → Prop} {μ : α → Nat} {s : α} (s' : α) (hμ : μ s' < μ s) (hR : R s' H L) (hs : Subs E (EE s')) :
    GK (Exit.then (fun a w => ∃ s' H' L', μ s' < μ s ∧ R s' H' L' ∧ At a n (EE s') ∧ Sat w H' L') Q) .normal n E H L := fun _ _ hA hS => ⟨s', H, L, hμ, hR, hA.sub hs, hS⟩

/-! ## Functions -/
def argEnv : Nat → List Value → Env
  | _, [] => []
  | k, v :: r => (k, v) :: argEnv (k + 1) r

theorem argEnv_find : ∀ (l : List Value) (k i : Nat) (v : Value), find (argEnv k l) i = some v → k ≤ i ∧ l[i - k]? = some v
  | [], k, i, v, h => by simp [argEnv, find] at h
  | u :: r, k, i, v, h => by
    by_cases he : k = i
    · subst he
      rw [argEnv, find_cons_self] at h
      simpa using h
    · rw [argEnv, find_cons_ne he] at h
      obtain ⟨h1, h2⟩ := argEnv_find r (k + 1) i v h
      refine ⟨by omega, ?_⟩
      rw [show i - k = (i - (k + 1)) + 1 by omega, List.getElem?_cons_succ]
      exact h2

/-- The result variables' values, read in the end. -/
def resVals (P : Program) (E : Env) (H : Gh) (L : Chunks) (fn : Func) (v : Value) : Prop :=
  ∀ a w n, At a n E → Sat w H L → (results fn a.tmps).run P w = .ok v w

theorem cc_of {f : FuncId} {fn : Func} {c : Code} {args : List Value} {R : Value → Gh → Chunks → Prop} (hf : P.funcs[f]? = some fn) (hb : fn.body = some c)
    (hle : args.length ≤ fn.ntmps)
    (h : GC P c (bodyPost P fn fun e w' => ∃ v H' L', e = .returned v ∧ H ≤ H' ∧ Sat w' H' L' ∧ R v H' L') fn.ntmps (argEnv 0 args) H L) :
    CC P f args.toArray H L R := by
  intro w hS
  refine calls_of_wp hf hb (h _ w ⟨rfl, ?_, fun i v hv => ?_⟩ hS)
  · simp; omega
  · obtain ⟨_, h2⟩ := argEnv_find args 0 i v hv
    have hl : i < args.length := (List.getElem?_eq_some_iff.1 (by simpa using h2)).1
    have h3 : args[i]? = some v := by simpa using h2
    have h4 : args[i] = v := by rw [List.getElem?_eq_getElem hl] at h3; exact Option.some.inj h3
    simp [Array.getD_eq_getD_getElem?, Array.getElem?_append, hl, h4]

theorem gk_result {fn : Func} {R : Value → Gh → Chunks → Prop} {H0 : Gh} {e : Exit} {L' : Chunks} (he : e = .ret ∨ e = .normal) (v : Value) (hr : resVals P E H L fn v) (hs : L'.Sublist L) (hH : H0 ≤ H) (hR : R v H L') :
    GK (bodyPost P fn fun e w' => ∃ v H' L', e = .returned v ∧ H0 ≤ H' ∧ Sat w' H' L' ∧ R v H' L') e n E H L := by
  intro a w hA hS
  rcases he with rfl | rfl
  · exact ⟨hA.defers, v, hr a w n hA hS, v, H, L', rfl, hH, hS.sub (Gh.le_refl _) hs, hR⟩
  · exact ⟨hA.defers, v, hr a w n hA hS, v, H, L', rfl, hH, hS.sub (Gh.le_refl _) hs, hR⟩

theorem res1 {fn : Func} {t : Tmp} (h : fn.results = #[.tmp t]) (hv : find E t = some v) : resVals P E H L fn v := fun a w _ hA _ => by
  rw [results_tmp h, hA.get _ _ hv]
theorem res0 {fn : Func} (h : fn.results = #[]) : resVals P E H L fn (.tuple #[]) := fun a w _ _ _ => results_none h _ _ _
theorem res2 {fn : Func} {t u : Tmp} {v' : Value} (h : fn.results = #[.tmp t, .tmp u]) (hv : find E t = some v) (hu : find E u = some v') :
    resVals P E H L fn (.tuple #[v, v']) := fun a w _ hA _ => by
  rw [results_tmp2 h, hA.get _ _ hv, hA.get _ _ hu]
theorem res3 {fn : Func} {t u s : Tmp} {v' v'' : Value} (h : fn.results = #[.tmp t, .tmp u, .tmp s]) (hv : find E t = some v) (hu : find E u = some v') (hs : find E s = some v'') :
    resVals P E H L fn (.tuple #[v, v', v'']) := fun a w _ hA _ => by
  have e1 := hA.get _ _ hv
  have e2 := hA.get _ _ hu
  have e3 := hA.get _ _ hs
  simp only [Array.getD_eq_getD_getElem?] at e1 e2 e3
  simp [results, h, e1, e2, e3]
end
end Go.VK
