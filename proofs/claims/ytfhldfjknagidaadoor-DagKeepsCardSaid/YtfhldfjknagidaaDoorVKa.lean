/-
  A small logic over the walk's own: a frame's slots as a list, memory as blocks that stand for good and blocks that are owned. No program is named here.
-/
import Derived.Orders
import Derived.WalkKit
import Derived.Shelf.Abstract
set_option linter.unusedSimpArgs false
set_option linter.unusedVariables false
namespace Go.VK

/-! ## The slots -/
abbrev Env := List (Nat × Value)
abbrev Chunks := List (Nat × Obj)

def find : Env → Nat → Option Value
  | [], _ => none
  | (k, v) :: r, i => bif Nat.beq k i then some v else find r i

structure At (a : Act) (n : Nat) (E : Env) : Prop where
  defers : a.defers = []
  size : a.tmps.size = n
  get : ∀ i v, find E i = some v → a.tmps.getD i undef = v

def ev (E : Env) : Operand → Option Value
  | .tmp t => find E t
  | .const v => some v
  | .global g => some (.pointer (some ⟨g, 0, none⟩))
  | .func f => some (.func (.func f) #[] #[])

section
variable {a : Act} {n : Nat} {E E' : Env} {x : Operand} {v : Value} {d : Nat}
theorem At.ev (h : At a n E) (hx : ev E x = some v) : a.eval x = v := by
  cases x <;> simp only [VK.ev, Option.some.injEq] at hx
  · exact h.get _ _ hx
  all_goals exact hx

theorem find_cons_self (v : Value) : find ((d, v) :: E) d = some v := by simp [find]
theorem find_cons_ne {i : Nat} (h : d ≠ i) : find ((d, v) :: E) i = find E i := by
  have : Nat.beq d i = false := by
    cases hb : Nat.beq d i with
    | false => rfl
    | true => exact absurd (Nat.eq_of_beq_eq_true hb) h
  simp [find, this]

theorem At.put (h : At a n E) (hd : d < n) (v : Value) : At (a.put (some d) v) n ((d, v) :: E) := by
  refine ⟨h.defers, by simp [Act.put, h.size], fun i u hu => ?_⟩
  by_cases he : d = i
  · subst he
    rw [find_cons_self] at hu
    cases hu
    have := h.size
    simp [Act.put, Array.getD_eq_getD_getElem?, this, hd]
  · rw [find_cons_ne he] at hu
    have := h.get i u hu
    simpa [Act.put, Array.getD_eq_getD_getElem?, Array.getElem?_setIfInBounds_ne he] using this

theorem At.put_none (h : At a n E) (v : Value) : At (a.put none v) n E := h

theorem At.sub (h : At a n E) (hs : ∀ p ∈ E', find E p.1 = some p.2) : At a n E' := by
  refine ⟨h.defers, h.size, fun i v hv => h.get i v ?_⟩
  have : ∃ p ∈ E', p.1 = i ∧ p.2 = v := by
    clear hs
    induction E' with
    | nil => simp [find] at hv
    | cons p r ih =>
      obtain ⟨k, u⟩ := p
      by_cases he : k = i
      · subst he; rw [find_cons_self] at hv; cases hv; exact ⟨_, List.mem_cons_self, rfl, rfl⟩
      · rw [find_cons_ne he] at hv
        obtain ⟨p, hp, h1⟩ := ih hv
        exact ⟨p, List.mem_cons_of_mem _ hp, h1⟩
  obtain ⟨p, hp, rfl, rfl⟩ := this
  exact hs p hp

/-- What the slots of E' hold is what E says. -/
def Subs (E E' : Env) : Prop := ∀ p ∈ E', find E p.1 = some p.2
theorem Subs.nil : Subs E [] := fun p hp => by cases hp
theorem Subs.cons {k : Nat} (h : find E k = some v) (hs : Subs E E') : Subs E ((k, v) :: E') := fun p hp => by
  rcases List.mem_cons.1 hp with rfl | hp
  · exact h
  · exact hs p hp
end

/-! ## Memory -/
/-- What stands for good, and what the world is besides. -/
structure Gh where
  imm : Nat → Option Obj
  os : Os
  tape : Nat → Question → Nat
  output : Array (Nat × ByteArray)
  drawn : Nat

structure Gh.le (H H' : Gh) : Prop where
  imm : ∀ b o, H.imm b = some o → H'.imm b = some o
  os : H'.os = H.os
  tape : H'.tape = H.tape
  output : H'.output = H.output
  drawn : H.drawn ≤ H'.drawn
instance : LE Gh := ⟨Gh.le⟩
theorem Gh.le_refl (H : Gh) : H ≤ H := ⟨fun _ _ h => h, rfl, rfl, rfl, Nat.le_refl _⟩
theorem Gh.le_trans {A B C : Gh} (h : A ≤ B) (k : B ≤ C) : A ≤ C :=
  ⟨fun b o x => k.imm b o (h.imm b o x), k.os.trans h.os, k.tape.trans h.tape, k.output.trans h.output, Nat.le_trans h.drawn k.drawn⟩

structure Sat (w : World) (H : Gh) (L : Chunks) : Prop where
  os : w.os = H.os
  tape : w.tape = H.tape
  output : w.output = H.output
  drawn : H.drawn ≤ w.drawn
  imm : ∀ b o, H.imm b = some o → w.heap[b]? = some o
  own : ∀ p ∈ L, w.heap[p.1]? = some p.2 ∧ H.imm p.1 = none
  nd : (L.map (·.1)).Nodup

section
variable {w : World} {H H' : Gh} {L L' : Chunks}
theorem Sat.sub (h : Sat w H L) (hH : H' ≤ H) (hs : L'.Sublist L) : Sat w H' L' :=
  ⟨h.os.trans hH.os, h.tape.trans hH.tape, h.output.trans hH.output, Nat.le_trans hH.drawn h.drawn, fun b o x => h.imm b o (hH.imm b o x),
   fun p hp => ⟨(h.own p (hs.subset hp)).1, by
     cases hb : H'.imm p.1 with
     | none => rfl
     | some o => have := hH.imm _ _ hb; rw [(h.own p (hs.subset hp)).2] at this; cases this⟩,
   h.nd.sublist (hs.map _)⟩
theorem Sat.perm (h : Sat w H L) (hp : L.Perm L') : Sat w H L' :=
  ⟨h.os, h.tape, h.output, h.drawn, h.imm, fun p hp' => h.own p (hp.mem_iff.2 hp'), (hp.map _).nodup_iff.1 h.nd⟩
theorem Sat.drew (h : Sat w H L) : Sat { w with drawn := w.drawn + 1 } H L := ⟨h.os, h.tape, h.output, Nat.le_succ_of_le h.drawn, h.imm, h.own, h.nd⟩
theorem Sat.lt_imm (h : Sat w H L) {b : Nat} {o : Obj} (hb : H.imm b = some o) : b < w.heap.size :=
  (Array.getElem?_eq_some_iff.1 (h.imm b o hb)).1
theorem Sat.lt_own (h : Sat w H L) {p : Nat × Obj} (hp : p ∈ L) : p.1 < w.heap.size := (Array.getElem?_eq_some_iff.1 (h.own p hp).1).1
theorem Sat.new (h : Sat w H L) (o : Obj) : Sat { w with heap := w.heap.push o } H ((w.heap.size, o) :: L) := by
  refine ⟨h.os, h.tape, h.output, h.drawn, fun b u hb => ?_, fun p hp => ?_, ?_⟩
  · have := h.lt_imm hb
    show (w.heap.push o)[b]? = _
    rw [Array.getElem?_push, if_neg (by omega)]; exact h.imm b u hb
  · rcases List.mem_cons.1 hp with rfl | hp
    · refine ⟨by simp, ?_⟩
      cases hb : H.imm w.heap.size with
      | none => rfl
      | some u => have := h.lt_imm hb; omega
    · have := h.lt_own hp
      refine ⟨?_, (h.own p hp).2⟩
      show (w.heap.push o)[p.1]? = _
      rw [Array.getElem?_push, if_neg (by omega)]; exact (h.own p hp).1
  · simp only [List.map_cons, List.nodup_cons]
    refine ⟨fun hm => ?_, h.nd⟩
    obtain ⟨p, hp, he⟩ := List.mem_map.1 hm
    have := h.lt_own hp
    omega

theorem key_inj {L : Chunks} (h : (L.map (·.1)).Nodup) {i j b : Nat} {o o' : Obj} (hi : L[i]? = some (b, o)) (hj : L[j]? = some (b, o')) : i = j := by
  have hil : i < L.length := (List.getElem?_eq_some_iff.1 hi).1
  have hjl : j < L.length := (List.getElem?_eq_some_iff.1 hj).1
  have h1 := (List.getElem?_eq_some_iff.1 hi).2
  have h2 := (List.getElem?_eq_some_iff.1 hj).2
  rw [List.Nodup, List.pairwise_iff_getElem] at h
  rcases Nat.lt_trichotomy i j with hlt | he | hlt
  · have := h i j (by simpa using hil) (by simpa using hjl) hlt
    simp only [List.getElem_map, h1, h2] at this
    exact absurd rfl this
  · exact he
  · have := h j i (by simpa using hjl) (by simpa using hil) hlt
    simp only [List.getElem_map, h1, h2] at this
    exact absurd rfl this

/-- Block b of the owned ones is rewritten. -/
theorem Sat.put (h : Sat w H L) {k b : Nat} {o : Obj} (hk : L[k]? = some (b, o)) (o' : Obj) {w' : World} (hos : w'.os = w.os) (ht : w'.tape = w.tape) (hdr : w.drawn ≤ w'.drawn)
    (ho : w'.output = w.output) (hb : w'.heap[b]? = some o') (hne : ∀ i, i ≠ b → w'.heap[i]? = w.heap[i]?) : Sat w' H (L.set k (b, o')) := by
  have hkl : k < L.length := (List.getElem?_eq_some_iff.1 hk).1
  have hmem : (b, o) ∈ L := List.mem_of_getElem? hk
  have hfst : (L.set k (b, o')).map (·.1) = L.map (·.1) := by
    rw [List.map_set]
    apply List.ext_getElem?
    intro j
    rw [List.getElem?_set]
    split
    · rename_i hj; subst hj; simp [hkl]; have := (List.getElem?_eq_some_iff.1 hk).2; simp [this]
    · rfl
  refine ⟨hos.trans h.os, ht.trans h.tape, ho.trans h.output, Nat.le_trans h.drawn hdr, fun i u hi => ?_, fun p hp => ?_, by rw [hfst]; exact h.nd⟩
  · by_cases hib : i = b
    · subst hib
      have := (h.own _ hmem).2
      simp only at this
      rw [this] at hi; cases hi
    · rw [hne i hib]; exact h.imm i u hi
  · obtain ⟨j, hj⟩ := List.mem_iff_getElem?.1 hp
    rw [List.getElem?_set] at hj
    by_cases hkj : k = j
    · subst hkj
      simp [hkl] at hj
      subst hj
      exact ⟨hb, (h.own _ hmem).2⟩
    · rw [if_neg hkj] at hj
      have hpL := List.mem_of_getElem? hj
      have hpb : p.1 ≠ b := fun he => by
        obtain ⟨p1, p2⟩ := p
        subst he
        exact hkj (key_inj h.nd hk hj)
      exact ⟨by rw [hne _ hpb]; exact (h.own p hpL).1, (h.own p hpL).2⟩

/-- An owned block stands for good from now on. -/
def Gh.add (H : Gh) (b : Nat) (o : Obj) : Gh := { H with imm := fun i => if i = b then some o else H.imm i }
theorem Gh.le_add {b : Nat} {o : Obj} (hb : H.imm b = none) : H ≤ H.add b o :=
  ⟨fun i u hi => by
    show (if i = b then some o else H.imm i) = _
    split
    · rename_i e; subst e; rw [hb] at hi; cases hi
    · exact hi, rfl, rfl, rfl, Nat.le_refl _⟩
theorem Gh.add_self (b : Nat) (o : Obj) : (H.add b o).imm b = some o := by simp [Gh.add]
theorem Sat.fixed {b : Nat} {o : Obj} (h : Sat w H ((b, o) :: L)) : Sat w (H.add b o) L := by
  have hb := h.own _ List.mem_cons_self
  have hnd := h.nd
  simp only [List.map_cons, List.nodup_cons] at hnd
  refine ⟨h.os, h.tape, h.output, h.drawn, fun i u hi => ?_, fun p hp => ⟨(h.own p (List.mem_cons_of_mem _ hp)).1, ?_⟩, hnd.2⟩
  · by_cases e : i = b
    · subst e; rw [Gh.add_self] at hi; cases hi; exact hb.1
    · simp only [Gh.add, if_neg e] at hi; exact h.imm i u hi
  · have : p.1 ≠ b := fun e => hnd.1 (List.mem_map.2 ⟨p, hp, e⟩)
    simp only [Gh.add, if_neg this]
    exact (h.own p (List.mem_cons_of_mem _ hp)).2
theorem Sat.free {b : Nat} {o : Obj} (h : Sat w H ((b, o) :: L)) : H.imm b = none := (h.own _ List.mem_cons_self).2
theorem Sat.tail {p : Nat × Obj} (h : Sat w H (p :: L)) : Sat w H L := h.sub (Gh.le_refl _) (List.sublist_cons_self _ _)
end

/-! ## Judgements -/
section
variable (P : Program)
/-- One operation, that does not panic. -/
def One (o : Oper) (K : Act → World → Prop) (a : Act) (w : World) : Prop := o.wp P a w K (fun _ _ _ => False)

theorem One.mono {P : Program} {o : Oper} {K K' : Act → World → Prop} {a : Act} {w : World} (h : ∀ a w, K a w → K' a w) (ho : One P o K a w) : One P o K' a w :=
  Oper.wp_mono h ho
theorem One.wp {P : Program} {o : Oper} {K : Act → World → Prop} {Q : Exit → Act → World → Prop} {a : Act} {w : World} (ho : One P o K a w) : o.wp P a w K Q := by
  unfold One Oper.wp at *
  generalize (execOp a.eval o).run P w = r at *
  cases r with
  | ok n w' =>
    cases n <;> simp only [Oper.upon] at ho ⊢ <;>
      first
        | exact ho
        | exact Calls.mono ho (fun e w'' he => by
            cases e with
            | returned v => exact he
            | panicked c => exact he.elim
            | outgrown => obtain ⟨_, _, h⟩ := he; exact h.elim)
  | halt x w' => cases x <;> simp only [Oper.upon] at ho ⊢ <;> exact ho.elim

def nth : List Oper → Nat → Oper
  | [], _ => default
  | o :: _, 0 => o
  | _ :: r, i + 1 => nth r i
theorem nth_eq : ∀ (l : List Oper) (i : Nat) (o : Oper), l[i]? = some o → nth l i = o
  | [], _, _, h => by simp at h
  | _ :: _, 0, _, h => by simpa [nth] using h
  | _ :: r, i + 1, o, h => by simpa [nth] using nth_eq r i o (by simpa using h)

/-- What a movable operation may lean on. -/
def Stable (M : Option (Gh × Chunks)) (w w' : World) : Prop :=
  match M with
  | none => w' = w
  | some (H0, L0) => Sat w' H0 L0
def Keeps (M : Option (Gh × Chunks)) (w : World) : Prop :=
  match M with
  | none => True
  | some (H0, L0) => Sat w H0 L0

/-- An operation that only looks; one that acts and leaves what is looked at; one behind all else. -/
inductive Fl where
  | mv | nm | fin
  deriving DecidableEq

/-- The operations of a region, one behind the other. -/
def Run (ops : List Oper) (M : Option (Gh × Chunks)) (K : Act → World → Prop) : List (Fl × Nat) → Act → World → Prop
  | [], a, w => K a w
  | (m, i) :: r, a, w =>
    let o := nth ops i
    if Region.wanted o (yielded ops.toArray a.tmps) = true then
      match m with
      | .mv => ∃ v, (∀ w', Stable M w w' → (execOp a.eval o).run P w' = .ok (.value v) w') ∧ Run ops M K r (a.put o.dst v) w
      | .nm => One P o (fun a' w' => Keeps M w' ∧ Run ops M K r a' w') a w
      | .fin => One P o (fun a' w' => Run ops M K r a' w') a w
    else Run ops M K r (a.put o.dst undef) w

def GR (ops : List Oper) (M : Option (Gh × Chunks)) (Q : Exit → Act → World → Prop) (n : Nat) (E : Env) (l : List (Fl × Nat)) (H : Gh) (L : Chunks) : Prop :=
  ∀ a w, At a n E → Sat w H L → Run P ops M (Q .normal) l a w
def GC (c : Code) (Q : Exit → Act → World → Prop) (n : Nat) (E : Env) (H : Gh) (L : Chunks) : Prop :=
  ∀ a w, At a n E → Sat w H L → c.wp P Q a w
end
def GK (Q : Exit → Act → World → Prop) (e : Exit) (n : Nat) (E : Env) (H : Gh) (L : Chunks) : Prop :=
  ∀ a w, At a n E → Sat w H L → Q e a w

/-- It can be called, and hands back v, where R holds of what is then. -/
def CC (P : Program) (f : FuncId) (args : Array Value) (H : Gh) (L : Chunks) (R : Value → Gh → Chunks → Prop) : Prop :=
  ∀ w, Sat w H L → Calls P f args w fun e w' => ∃ v H' L', e = .returned v ∧ H ≤ H' ∧ Sat w' H' L' ∧ R v H' L'

theorem CC.mono {P : Program} {f : FuncId} {args : Array Value} {H : Gh} {L : Chunks} {R R' : Value → Gh → Chunks → Prop} (h : CC P f args H L R)
    (hr : ∀ v H' L', H ≤ H' → R v H' L' → R' v H' L') : CC P f args H L R' := fun w hw =>
  (h w hw).mono fun _ _ ⟨v, H', L', he, hH, hs, r⟩ => ⟨v, H', L', he, hH, hs, hr _ _ _ hH r⟩

end Go.VK
