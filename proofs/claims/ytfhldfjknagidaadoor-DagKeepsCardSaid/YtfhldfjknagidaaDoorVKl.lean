/-
  How the reference's set of operations lies in memory; plain facts on searching.
-/
import Derived.Test.YtfhldfjknagidaaDoorVKk
set_option linter.unusedSimpArgs false
set_option linter.unusedVariables false
namespace Go.VK
open Go.Tr

/-- The place of a name, or -1. -/
def posOf (l : List Nm) (n : Nm) : Int := match l.findIdx? (· == n) with | some i => (i : Int) | none => -1
theorem posOf_hit {l : List Nm} {n : Nm} {k : Nat} (h : ∀ j, j < k → l[j]? ≠ some n) (hk : l[k]? = some n) : posOf l n = k := by
  have : l.findIdx? (· == n) = some k := by
    rw [List.findIdx?_eq_some_iff_getElem]
    obtain ⟨h1, h2⟩ := List.getElem?_eq_some_iff.1 hk
    refine ⟨h1, by simp [h2], fun j hj => ?_⟩
    have := h j hj
    rw [List.getElem?_eq_getElem (by omega)] at this
    simpa using fun e => this (by rw [e])
  rw [posOf, this]
theorem posOf_miss {l : List Nm} {n : Nm} {k : Nat} (h : ∀ j, j < k → l[j]? ≠ some n) (hk : l.length ≤ k) : posOf l n = -1 := by
  have : l.findIdx? (· == n) = none := by
    rw [List.findIdx?_eq_none_iff]
    intro x hx
    obtain ⟨j, hj, rfl⟩ := List.getElem_of_mem hx
    have := h j (by omega)
    rw [List.getElem?_eq_getElem hj] at this
    simpa using fun e => this (by rw [e])
  rw [posOf, this]
theorem has_hit {l : List (Nm × POp)} {n : Nm} {k : Nat} (hk : (l.map (·.1))[k]? = some n) : has l n = true := by
  rw [List.getElem?_map] at hk
  cases hx : l[k]? with
  | none => rw [hx] at hk; cases hk
  | some p =>
    rw [hx] at hk
    simp only [Option.map_some, Option.some.injEq] at hk
    exact List.any_eq_true.2 ⟨p, List.mem_of_getElem? hx, by simp [hk]⟩
theorem has_miss {l : List (Nm × POp)} {n : Nm} {k : Nat} (h : ∀ j, j < k → (l.map (·.1))[j]? ≠ some n) (hk : (l.map (·.1)).length ≤ k) : has l n = false := by
  rw [has, List.any_eq_false]
  intro p hp
  obtain ⟨j, hj, rfl⟩ := List.getElem_of_mem hp
  have := h j (by simp at hk; omega)
  simpa [List.getElem?_map, List.getElem?_eq_getElem hj] using this
theorem has_iff {l : List (Nm × POp)} {n : Nm} : has l n = true ↔ ∃ k : Nat, (l.map (·.1))[k]? = some n := by
  constructor
  · intro h
    obtain ⟨p, hp, he⟩ := List.any_eq_true.1 h
    obtain ⟨j, hj, rfl⟩ := List.getElem_of_mem hp
    refine ⟨j, ?_⟩
    rw [List.getElem?_map, List.getElem?_eq_getElem hj]
    simpa using he
  · rintro ⟨k, hk⟩; exact has_hit hk
theorem posOf_has {l : List (Nm × POp)} {n : Nm} : (decide (posOf (l.map (·.1)) n < 0)) = !has l n := by
  cases h : (l.map (·.1)).findIdx? (· == n) with
  | none =>
    have : has l n = false := by
      rw [List.findIdx?_eq_none_iff] at h
      rw [has, List.any_eq_false]
      intro p hp
      have := h p.1 (List.mem_map.2 ⟨p, hp, rfl⟩)
      simp at this ⊢; exact this
    simp [posOf, h, this]
  | some i =>
    rw [List.findIdx?_eq_some_iff_getElem] at h
    obtain ⟨h1, h2, _⟩ := h
    have : has l n = true := has_hit (k := i) (by rw [List.getElem?_eq_getElem h1]; simpa using h2)
    have e : posOf (l.map (·.1)) n < 0 ↔ False := by
      have h3 : (l.map (·.1)).findIdx? (· == n) = some i := by
        rw [List.findIdx?_eq_some_iff_getElem]; exact ⟨h1, h2, by assumption⟩
      rw [posOf, h3]; simp only [iff_false]; omega
    rw [this]; simpa using e
/-- What is found at a name's place. -/
theorem posOf_get {l : List (Nm × POp)} {n : Nm} (h : has l n = true) : ∃ (k : Nat) (o : POp), posOf (l.map (·.1)) n = (k : Int) ∧ l[k]? = some (n, o) ∧ Tr.get l n = some o := by
  induction l with
  | nil => simp [has] at h
  | cons p r ih =>
    by_cases e : p.1 = n
    · refine ⟨0, p.2, ?_, ?_, ?_⟩
      · simp [posOf, List.findIdx?_cons, e]
      · simp [← e]
      · simp [Tr.get, List.find?_cons, e]
    · have h' : has r n = true := by
        simp only [has, List.any_cons] at h ⊢
        have : (p.1 == n) = false := by simpa using e
        rw [this] at h; simpa using h
      obtain ⟨k, o, h1, h2, h3⟩ := ih h'
      refine ⟨k + 1, o, ?_, by simpa using h2, ?_⟩
      · have e1 : (p.1 == n) = false := by simpa using e
        simp only [posOf, List.map_cons, List.findIdx?_cons, e1] at h1 ⊢
        cases hf : (r.map (·.1)).findIdx? (· == n) with
        | none => rw [hf] at h1; exact absurd h1 (by simp only; omega)
        | some i =>
          rw [hf] at h1
          simp only at h1
          have : i = k := by omega
          subst this; rfl
      · have e1 : (p.1 == n) = false := by simpa using e
        simp only [Tr.get, List.find?_cons, e1] at h3 ⊢
        exact h3

theorem Ow.one {e k n : Nat} {C : Chunks} {v : Value} {cs : List Value} (h : Ow e k C v n cs) : v.oneCell' = true := by
  obtain ⟨a, cap, rfl, _⟩ := h.slice; rfl
theorem cells1 {v : Value} (h : v.oneCell' = true) : v.cells.toList = [v] := by cases v <;> first | rfl | (simp [Value.oneCell'] at h)

/-! ## Rows of elements of k cells -/
section
variable {α : Type} {enc : α → List Value} {k : Nat}
theorem flat_len (hk : ∀ x, (enc x).length = k) : ∀ xs : List α, (xs.flatMap enc).length = xs.length * k
  | [] => by simp
  | x :: r => by rw [List.flatMap_cons, List.length_append, hk, flat_len hk r, List.length_cons, Nat.succ_mul]; omega
theorem flat_takek (hk : ∀ x, (enc x).length = k) : ∀ (xs : List α) (j : Nat), j ≤ xs.length → (xs.flatMap enc).take (j * k) = (xs.take j).flatMap enc
  | xs, 0, _ => by simp
  | [], j + 1, h => by simp at h
  | x :: r, j + 1, h => by
    rw [List.flatMap_cons, List.take_succ_cons, List.flatMap_cons, ← flat_takek hk r j (by simpa using h), Nat.succ_mul, List.take_append, List.take_of_length_le (by rw [hk]; omega), hk, show j * k + k - k = j * k by omega]
theorem flat_dropk (hk : ∀ x, (enc x).length = k) : ∀ (xs : List α) (j : Nat), j ≤ xs.length → (xs.flatMap enc).drop (j * k) = (xs.drop j).flatMap enc
  | xs, 0, _ => by simp
  | [], j + 1, h => by simp at h
  | x :: r, j + 1, h => by
    rw [List.flatMap_cons, List.drop_succ_cons, ← flat_dropk hk r j (by simpa using h), Nat.succ_mul, List.drop_append, List.drop_eq_nil_of_le (by rw [hk]; omega), hk, show j * k + k - k = j * k by omega, List.nil_append]
theorem flat_seg (hk : ∀ x, (enc x).length = k) : ∀ (xs : List α) (j : Nat) (x : α), xs[j]? = some x → Seg (xs.flatMap enc) (j * k) (enc x)
  | [], j, x, h => by simp at h
  | y :: r, 0, x, h => by
    simp only [List.getElem?_cons_zero, Option.some.injEq] at h
    subst h
    rw [List.flatMap_cons, Nat.zero_mul]; exact Seg.head
  | y :: r, j + 1, x, h => by
    rw [List.flatMap_cons]
    exact (flat_seg hk r j x (by simpa using h)).skip (by rw [hk, Nat.succ_mul]; omega)
theorem flat_ones (h1 : ∀ x, oneCells (enc x)) (xs : List α) : oneCells (xs.flatMap enc) := fun u hu => by
  obtain ⟨x, _, hx⟩ := List.mem_flatMap.1 hu
  exact h1 x u hx
/-- An owned slice reads as its elements. -/
theorem Ow.slT {H : Gh} {L C : Chunks} {e n : Nat} {v : Value} {xs : List α} (hk : ∀ x, (enc x).length = k) (hO : Ow e k C v n (xs.flatMap enc)) (hn : xs.length = n) (hlt : n < 4611686018427387904) (hC : ∀ x ∈ C, x ∈ L) : SlT enc k H L v xs := by
  obtain ⟨a, cap, rfl, hcap⟩ := hO.slice
  subst hn
  by_cases h0 : xs.length = 0
  · have : xs = [] := List.length_eq_zero_iff.1 h0
    subst this
    exact ⟨a, 0, 0, cap, [], rfl, hcap, hlt, fun ha => ⟨rfl, (hO.notnil ha).2⟩, fun h => absurd rfl h, fun j x hx => by simp at hx⟩
  · obtain ⟨b, l, rfl, h1, h2⟩ := hO.elem h0
    refine ⟨_, b, 0, cap, l, rfl, hcap, hlt, (fun h => by cases h), fun _ => ⟨rfl, h1 H L hC⟩, fun j x hx => ?_⟩
    rw [Nat.zero_add]
    have := h2.trans (flat_seg hk xs j x hx)
    rwa [Nat.zero_add] at this
/-- The elements from lo to hi of a slice, as what append takes. -/
theorem SlT.src {P : Program} {H : Gh} {L : Chunks} {v : Value} {xs : List α} (hk : ∀ x, (enc x).length = k) (h1 : ∀ x, oneCells (enc x)) (h : SlT enc k H L v xs) : Src P H L k v xs.length (xs.flatMap enc) := by
  obtain ⟨a, b, o, c, l, rfl, hc, hn, h0, h3, h2⟩ := h
  refine src_slice (b := b) (o := o) (l := l) (flat_len hk xs) (flat_ones h1 xs) (fun ha => by simp [(h0 ha).1]) (fun _ hne => ?_)
  have hne' : xs ≠ [] := fun e => hne (by simp [e])
  refine ⟨(h3 hne').1, (h3 hne').2, fun j u hu => ?_⟩
  have hj := (List.getElem?_eq_some_iff.1 hu).1
  rw [flat_len hk] at hj
  have hk0 : 0 < k := by
    rcases Nat.eq_zero_or_pos k with h | h
    · subst h; simp at hj
    · exact h
  have hq : j / k < xs.length := (Nat.div_lt_iff_lt_mul hk0).2 hj
  have hx : xs[j / k]? = some xs[j / k] := List.getElem?_eq_getElem hq
  have hdm : j / k * k + j % k = j := by rw [Nat.mul_comm]; exact Nat.div_add_mod j k
  have hr : j % k < (enc xs[j / k]).length := by rw [hk]; exact Nat.mod_lt _ hk0
  have e1 := flat_seg hk xs (j / k) _ hx (j % k) _ (List.getElem?_eq_getElem hr)
  rw [hdm, hu] at e1
  have e2 := h2 (j / k) _ hx (j % k) _ (List.getElem?_eq_getElem hr)
  rw [Nat.add_assoc, hdm] at e2
  rw [e2, ← e1]
theorem SlT.srcN {P : Program} {H : Gh} {L : Chunks} {v : Value} {xs : List α} {n : Nat} (hk : ∀ x, (enc x).length = k) (h1 : ∀ x, oneCells (enc x)) (h : SlT enc k H L v xs) (hn : xs.length = n) : Src P H L k v n (xs.flatMap enc) := by
  subst hn; exact h.src hk h1
theorem SlT.lo {H : Gh} {L : Chunks} {a : Option Addr} {n cap l : Nat} {xs : List α} (h : SlT enc k H L (.slice a n cap) xs) (hl : l ≤ xs.length) : SlT enc k H L (.slice (if cap = l then a else a.map (·.add (l * k))) (n - l) (cap - l)) (xs.drop l) := by
  obtain ⟨a', b, o, c, ls, he, hc, hn, h0, h3, h2⟩ := h
  cases he
  refine ⟨_, b, o + l * k, _, ls, by rw [List.length_drop], by simp; omega, by simp; omega, fun ha => ?_, fun hne => ?_, fun j x hx => ?_⟩
  · split at ha
    · rename_i hcl
      have := h0 ha
      exact ⟨by rw [this.1]; simp, by omega⟩
    · cases a with
      | none => have := h0 rfl; exact ⟨by rw [this.1]; simp, by omega⟩
      | some q => simp at ha
  · have hlt : l < xs.length := by
      rcases Nat.lt_or_ge l xs.length with h | h
      · exact h
      · exact absurd (List.drop_eq_nil_of_le h) hne
    have hne' : xs ≠ [] := fun e => by subst e; simp at hlt
    obtain ⟨h4, h5⟩ := h3 hne'
    subst h4
    rw [if_neg (by omega)]
    exact ⟨by simp [addr_add], h5⟩
  · have := h2 (l + j) x (by simpa using hx)
    rwa [Nat.add_mul, ← Nat.add_assoc] at this
theorem SlT.hi {H : Gh} {L : Chunks} {a : Option Addr} {n cap m h' : Nat} {xs : List α} (h : SlT enc k H L (.slice a n cap) xs) (hh : h' ≤ xs.length) (hm : h' ≤ m) (hm0 : a = none → m = 0) : SlT enc k H L (.slice a h' m) (xs.take h') := by
  obtain ⟨a', b, o, c, ls, he, hc, hn, h0, h3, h2⟩ := h
  cases he
  refine ⟨_, b, o, m, ls, by rw [List.length_take, Nat.min_eq_left hh], by simp; omega, by simp; omega, fun ha => ⟨by rw [(h0 ha).1]; simp, hm0 ha⟩, fun hne => ?_, fun j x hx => ?_⟩
  · exact h3 (fun e => hne (by rw [e]; simp))
  · refine h2 j x ?_
    rw [List.getElem?_take] at hx
    split at hx
    · exact hx
    · cases hx
end
section
variable {P : Program} {E : Env} {H : Gh} {L : Chunks} {t T : TypeId} {x : Operand}
/-- s[:h:h] -/
theorem rd_slice3 {e : TypeId} {n len cap h : Nat} {a : Option Addr} {q q' : Operand} {kk kk' : IntKind} {i i' : Int} (hT : P.underlying T = some (.slice e)) (hk : ∀ w, (sizeOf e).run P w = .ok n w) (hx : ev E x = some (.slice a len cap))
    (hq : ev E q = some (.int kk i)) (hi : i = (h : Int)) (hq' : ev E q' = some (.int kk' i')) (hi' : i' = (h : Int)) (hh : h ≤ cap) : Rd P E H L (.slice T x none (some q) (some q')) t (.slice a h h) := fun A w m hA _ => by
  subst hi hi'
  have e1 : a.map (fun x : Addr => x.add 0) = a := by
    cases a with
    | none => rfl
    | some p => simp [Addr.add]
  simp [execOp, hA.ev hx, hA.ev hq, hA.ev hq', Instr.sliceAt, Instr.slice, run_underlying hT, Instr.sliceBounds, Instr.sliceBound, asIntOf, hk, hh, e1]
/-- s[:h] -/
theorem rd_sliceHiA {e : TypeId} {n len cap h : Nat} {a : Option Addr} {q : Operand} {kk : IntKind} {i : Int} (hT : P.underlying T = some (.slice e)) (hk : ∀ w, (sizeOf e).run P w = .ok n w) (hx : ev E x = some (.slice a len cap))
    (hq : ev E q = some (.int kk i)) (hi : i = (h : Int)) (hh : h ≤ cap) : Rd P E H L (.slice T x none (some q) none) t (.slice a h cap) := by
  have r := rd_sliceS (H := H) (L := L) (t := t) (lo := none) (hi := some q) (l := 0) (h := h) hT hk hx rfl ⟨kk, i, hq, hi⟩ (Nat.zero_le _) hh
  have e1 : (if cap = 0 then a else a.map (fun x : Addr => x.add (0 * n))) = a := by
    rw [Nat.zero_mul]
    split
    · rfl
    · cases a with
      | none => rfl
      | some p => simp [Addr.add]
  rw [e1] at r
  exact r
/-- s[l:] -/
theorem rd_sliceLoA {e : TypeId} {n len cap l : Nat} {a : Option Addr} {q : Operand} {kk : IntKind} {i : Int} (hT : P.underlying T = some (.slice e)) (hk : ∀ w, (sizeOf e).run P w = .ok n w) (hx : ev E x = some (.slice a len cap))
    (hq : ev E q = some (.int kk i)) (hi : i = (l : Int)) (hl : l ≤ len) (hc : len ≤ cap) : Rd P E H L (.slice T x (some q) none none) t (.slice (if cap = l then a else a.map (·.add (l * n))) (len - l) (cap - l)) :=
  rd_sliceS (lo := some q) (hi := none) hT hk hx ⟨kk, i, hq, hi⟩ rfl hl hc
end

/-- A set as it is looked at. -/
structure RView (H : Gh) (L : Chunks) (b : Nat) (s : DSet) (v0 v1 v2 v3 : Value) (ov wv : List (POp × Value)) : Prop where
  cells : Cells H L b [v0, v1, v2, v3]
  ops : OpsAt H L v0 ov
  opsE : ov.map (·.1) = s.ops.map (·.2)
  wait : OpsAt H L v1 wv
  waitE : wv.map (·.1) = s.wait.map (·.2)
  names : Ids H L v2 (s.ops.map (·.1))
  waits : Ids H L v3 (s.wait.map (·.1))
theorem OpsAt.mono {H H' : Gh} {L L' : Chunks} {v : Value} {xs : List (POp × Value)} (h : OpsAt H L v xs) (hH : H ≤ H') (hL : ∀ x ∈ L, x ∈ L') : OpsAt H' L' v xs :=
  ⟨h.1.mono hH hL, fun p hp => (h.2 p hp).up hH⟩
theorem RView.mono {H H' : Gh} {L L' : Chunks} {b : Nat} {s : DSet} {v0 v1 v2 v3 : Value} {ov wv : List (POp × Value)} (h : RView H L b s v0 v1 v2 v3 ov wv) (hH : H ≤ H') (hL : ∀ x ∈ L, x ∈ L') :
    RView H' L' b s v0 v1 v2 v3 ov wv := ⟨h.cells.mono hH hL, h.ops.mono hH hL, h.opsE, h.wait.mono hH hL, h.waitE, h.names.mono hH hL, h.waits.mono hH hL⟩
end Go.VK
