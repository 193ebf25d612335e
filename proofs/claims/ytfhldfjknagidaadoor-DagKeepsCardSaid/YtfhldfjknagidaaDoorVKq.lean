/-
  The order of names; rising lists; the least of those that are ready. No program, no memory.
-/
import Derived.Test.YtfhldfjknagidaaDoorVKp
import Derived.Sort.LotA
import Derived.Shelf.SlSortCmp.Insertion
set_option linter.unusedSimpArgs false
set_option linter.unusedVariables false
namespace Go.Tr

theorem cmpB_self : ∀ a : Bs, cmpB a a = 0
  | [] => rfl
  | a :: x => by
    have : ¬ a < a := by rw [UInt8.lt_iff_toNat_lt]; omega
    rw [cmpB, if_neg this, if_neg this, cmpB_self x]
theorem cmpB_swap : ∀ a b : Bs, cmpB b a = - cmpB a b
  | [], [] => rfl
  | [], _ :: _ => rfl
  | _ :: _, [] => rfl
  | a :: x, b :: y => by
    have ih := cmpB_swap x y
    simp only [cmpB, UInt8.lt_iff_toNat_lt]
    by_cases h1 : a.toNat < b.toNat
    · rw [if_neg (by omega), if_pos h1, if_pos h1]; rfl
    · by_cases h2 : b.toNat < a.toNat
      · rw [if_pos h2, if_neg h1, if_pos h2]
      · rw [if_neg h2, if_neg h1, if_neg h1, if_neg h2, ih]
theorem cmpB_zero : ∀ a b : Bs, cmpB a b = 0 → a = b
  | [], [], _ => rfl
  | [], _ :: _, h => by simp [cmpB] at h
  | _ :: _, [], h => by simp [cmpB] at h
  | a :: x, b :: y, h => by
    simp only [cmpB, UInt8.lt_iff_toNat_lt] at h
    by_cases h1 : a.toNat < b.toNat
    · rw [if_pos h1] at h; simp at h
    · rw [if_neg h1] at h
      by_cases h2 : b.toNat < a.toNat
      · rw [if_pos h2] at h; simp at h
      · rw [if_neg h2] at h
        rw [cmpB_zero x y h, show a = b from UInt8.toNat_inj.1 (by omega)]
theorem cmpB_trans : ∀ a b c : Bs, cmpB a b < 0 → cmpB b c < 0 → cmpB a c < 0
  | [], [], _, h, _ => by simp [cmpB] at h
  | [], _ :: _, [], _, h => by simp [cmpB] at h
  | [], _ :: _, _ :: _, _, _ => by simp [cmpB]
  | _ :: _, [], _, h, _ => by simp [cmpB] at h
  | _ :: _, _ :: _, [], _, h => by simp [cmpB] at h
  | a :: x, b :: y, c :: z, h1, h2 => by
    have ih := cmpB_trans x y z
    simp only [cmpB, UInt8.lt_iff_toNat_lt] at h1 h2 ⊢
    by_cases e1 : a.toNat < b.toNat
    · by_cases e2 : b.toNat < c.toNat
      · rw [if_pos (by omega)]; decide
      · rw [if_neg e2] at h2
        by_cases e3 : c.toNat < b.toNat
        · rw [if_pos e3] at h2; exact absurd h2 (by decide)
        · rw [if_pos (by omega)]; decide
    · rw [if_neg e1] at h1
      by_cases e4 : b.toNat < a.toNat
      · rw [if_pos e4] at h1; exact absurd h1 (by decide)
      · rw [if_neg e4] at h1
        by_cases e2 : b.toNat < c.toNat
        · rw [if_pos (by omega)]; decide
        · rw [if_neg e2] at h2
          by_cases e3 : c.toNat < b.toNat
          · rw [if_pos e3] at h2; exact absurd h2 (by decide)
          · rw [if_neg e3] at h2
            rw [if_neg (by omega), if_neg (by omega)]; exact ih h1 h2

theorem cmp_swap (a b : Nm) : cmp b a = - cmp a b := cmpB_swap _ _
theorem cmp_self (a : Nm) : cmp a a = 0 := cmpB_self _
theorem cmp_zero {a b : Nm} (h : cmp a b = 0) : a = b := Nm.ext' (cmpB_zero _ _ h)
theorem cmp_trans {a b c : Nm} (h : cmp a b < 0) (k : cmp b c < 0) : cmp a c < 0 := cmpB_trans _ _ _ h k
theorem ltN_iff {a b : Nm} : ltN a b = true ↔ cmp a b < 0 := by simp [ltN]
theorem ltN_false {a b : Nm} : ltN a b = false ↔ ¬ cmp a b < 0 := by simp [ltN]
theorem ltN_irrefl (a : Nm) : ltN a a = false := by rw [ltN_false, cmp_self]; decide
theorem ltN_trans {a b c : Nm} (h : ltN a b = true) (k : ltN b c = true) : ltN a c = true := by
  rw [ltN_iff] at *; exact cmp_trans h k
theorem ltN_anti {a b : Nm} (h : ltN a b = false) (k : ltN b a = false) : a = b := by
  rw [ltN_false] at h k
  rw [cmp_swap] at k
  exact cmp_zero (by omega)
theorem ltN_asymm {a b : Nm} (h : ltN a b = true) : ltN b a = false := by
  rw [ltN_iff] at h; rw [ltN_false, cmp_swap]; omega
theorem ltN_ntrans {a b c : Nm} (h : ltN a b = false) (k : ltN b c = false) : ltN a c = false := by
  cases hac : ltN a c with
  | false => rfl
  | true =>
    cases hba : ltN b a with
    | false => have := ltN_anti h hba; subst this; rw [hac] at k; cases k
    | true => have := ltN_trans hba hac; rw [this] at k; cases k
theorem ltOf_cmp : Go.Proofs.ltOf cmp = ltN := rfl
theorem swo_cmp : Go.Sort.SWO (Go.Proofs.ltOf cmp) where
  irrefl x := by rw [ltOf_cmp]; exact ltN_irrefl x
  trans x y z := by rw [ltOf_cmp]; exact ltN_trans
  ntrans x y z := by rw [ltOf_cmp]; exact ltN_ntrans

/-! ## Rising lists -/
/-- Not behind. -/
def leN (a b : Nm) : Bool := !ltN b a
theorem leN_trans {a b c : Nm} (h : leN a b = true) (k : leN b c = true) : leN a c = true := by
  simp only [leN, Bool.not_eq_true'] at *; exact ltN_ntrans k h
theorem leN_of_lt {a b : Nm} (h : ltN a b = true) : leN a b = true := by
  simp only [leN, Bool.not_eq_true']; exact ltN_asymm h
theorem dropWhile_head {α : Type} (p : α → Bool) : ∀ (l : List α) (y : α) (r : List α), l.dropWhile p = y :: r → p y = false
  | [], y, r, h => by simp at h
  | x :: l, y, r, h => by
    rw [List.dropWhile_cons] at h
    split at h
    · exact dropWhile_head p l y r h
    · rename_i hx
      cases h; simpa using hx
theorem mem_takeWhile {α : Type} (p : α → Bool) : ∀ (l : List α) (x : α), x ∈ l.takeWhile p → p x = true
  | [], x, h => by simp at h
  | y :: l, x, h => by
    rw [List.takeWhile_cons] at h
    split at h
    · rcases List.mem_cons.1 h with rfl | h
      · assumption
      · exact mem_takeWhile p l x h
    · cases h
theorem ins_perm (xs : List Nm) (x : Nm) : (ins xs x).Perm (x :: xs) := by
  rw [ins]
  refine List.perm_middle.trans ?_
  rw [List.takeWhile_append_dropWhile]
theorem ins_sorted {xs : List Nm} (x : Nm) (h : xs.Pairwise fun a b => leN a b = true) : (ins xs x).Pairwise fun a b => leN a b = true := by
  have hs : (xs.takeWhile (fun y => ltN y x) ++ xs.dropWhile (fun y => ltN y x)).Pairwise fun a b => leN a b = true := by
    rw [List.takeWhile_append_dropWhile]; exact h
  rw [List.pairwise_append] at hs
  rw [ins, List.pairwise_append, List.pairwise_cons]
  have hd : ∀ y ∈ xs.dropWhile (fun y => ltN y x), leN x y = true := by
    intro y hy
    cases hdw : xs.dropWhile (fun y => ltN y x) with
    | nil => rw [hdw] at hy; cases hy
    | cons z r =>
      have hz := dropWhile_head _ _ _ _ hdw
      have hxz : leN x z = true := by simp only [leN, Bool.not_eq_true']; exact hz
      rw [hdw] at hy
      rcases List.mem_cons.1 hy with rfl | hy
      · exact hxz
      · have h3 := hs.2.1
        rw [hdw, List.pairwise_cons] at h3
        exact leN_trans hxz (h3.1 y hy)
  have ht : ∀ y ∈ xs.takeWhile (fun y => ltN y x), leN y x = true := by
    intro y hy
    have := mem_takeWhile _ _ _ hy
    exact leN_of_lt this
  refine ⟨hs.1, ⟨hd, hs.2.1⟩, fun a ha b hb => ?_⟩
  rcases List.mem_cons.1 hb with rfl | hb
  · exact ht a ha
  · exact hs.2.2 a ha b hb
theorem fold_perm (l : List Nm) : ∀ xs : List Nm, (l.foldl ins xs).Perm (l ++ xs) := by
  induction l with
  | nil => intro xs; exact List.Perm.refl _
  | cons x r ih =>
    intro xs
    rw [List.foldl_cons]
    refine (ih _).trans ?_
    refine ((ins_perm xs x).append_left r).trans ?_
    exact List.perm_middle
theorem rising_perm (l : List Nm) : (rising l).Perm l := by simpa [rising] using fold_perm l []
theorem fold_sorted (l : List Nm) : ∀ xs : List Nm, (xs.Pairwise fun a b => leN a b = true) → (l.foldl ins xs).Pairwise fun a b => leN a b = true := by
  induction l with
  | nil => intro xs h; exact h
  | cons x r ih => intro xs h; exact ih _ (ins_sorted x h)
theorem rising_sorted (l : List Nm) : (rising l).Pairwise fun a b => leN a b = true := fold_sorted l [] List.Pairwise.nil
theorem leN_anti {a b : Nm} (h : leN a b = true) (k : leN b a = true) : a = b := by
  simp only [leN, Bool.not_eq_true'] at *; exact ltN_anti k h
theorem sorted_eq {l l' : List Nm} (hp : l.Perm l') (h : l.Pairwise fun a b => leN a b = true) (h' : l'.Pairwise fun a b => leN a b = true) : l = l' :=
  List.Perm.eq_of_pairwise (le := fun a b => leN a b = true) (fun _ _ _ _ h1 h2 => leN_anti h1 h2) h h' hp
theorem rising_of_perm {l l' : List Nm} (hp : l.Perm l') : rising l = rising l' :=
  sorted_eq (((rising_perm l).trans hp).trans (rising_perm l').symm) (rising_sorted l) (rising_sorted l')
/-- A sort of whatever make gives the rising list. -/
theorem mergeSort_rising {l l' : List Nm} (hp : l.Perm l') : l.mergeSort (fun x y => !(Go.Proofs.ltOf cmp) y x) = rising l' := by
  have e : (fun x y => !(Go.Proofs.ltOf cmp) y x) = leN := by funext x y; rfl
  rw [e]
  refine sorted_eq (((List.mergeSort_perm l leN).trans hp).trans (rising_perm l').symm) ?_ (rising_sorted l')
  refine List.pairwise_mergeSort (le := leN) (fun a b c h k => leN_trans h k) (fun a b => ?_) l
  cases h : ltN b a with
  | false => simp [leN, h]
  | true => simp [leN, ltN_asymm h]
theorem mem_rising {l : List Nm} {n : Nm} : n ∈ rising l ↔ n ∈ l := (rising_perm l).mem_iff
theorem rising_nodup {l : List Nm} (h : l.Nodup) : (rising l).Nodup := (rising_perm l).nodup_iff.2 h
theorem rising_length (l : List Nm) : (rising l).length = l.length := (rising_perm l).length_eq

/-! ## Look-ups by name -/
theorem get_some_of {l : List (Nm × POp)} {n : Nm} {o : POp} {i : Nat} (hnd : (l.map (·.1)).Nodup) (h : l[i]? = some (n, o)) : get l n = some o := by
  induction l generalizing i with
  | nil => simp at h
  | cons p r ih =>
    rw [List.map_cons, List.nodup_cons] at hnd
    cases i with
    | zero =>
      simp only [List.getElem?_cons_zero, Option.some.injEq] at h
      subst h; simp [get]
    | succ i =>
      have hr : r[i]? = some (n, o) := by simpa using h
      have hne : p.1 ≠ n := fun e => hnd.1 (List.mem_map.2 ⟨_, List.mem_of_getElem? hr, e.symm⟩)
      have := ih hnd.2 hr
      have e1 : (p.1 == n) = false := by simp [hne]
      simp only [get, List.find?_cons, e1] at this ⊢; exact this
theorem get_mem {l : List (Nm × POp)} {n : Nm} {o : POp} (h : get l n = some o) : (n, o) ∈ l := by
  simp only [get, Option.map_eq_some_iff] at h
  obtain ⟨p, hp, rfl⟩ := h
  have h1 := List.find?_some hp
  have h2 := List.mem_of_find?_eq_some hp
  have : p.1 = n := by simpa using h1
  subst this; exact h2
theorem get_none {l : List (Nm × POp)} {n : Nm} : get l n = none ↔ has l n = false := by
  simp [get, has]
theorem get_isSome {l : List (Nm × POp)} {n : Nm} : (get l n).isSome = has l n := by
  cases h : has l n with
  | false => rw [get_none.2 h]; rfl
  | true =>
    cases hg : get l n with
    | some o => rfl
    | none => rw [get_none.1 hg] at h; cases h
theorem has_mem {l : List (Nm × POp)} {n : Nm} : has l n = true ↔ n ∈ l.map (·.1) := by
  simp [has]
theorem erase_filter {l : List (Nm × POp)} {n : Nm} {o : POp} {i : Nat} (hnd : (l.map (·.1)).Nodup) (h : l[i]? = some (n, o)) : l.eraseIdx i = l.filter fun p => !(p.1 == n) := by
  induction l generalizing i with
  | nil => simp at h
  | cons p r ih =>
    rw [List.map_cons, List.nodup_cons] at hnd
    cases i with
    | zero =>
      simp only [List.getElem?_cons_zero, Option.some.injEq] at h
      subst h
      have : r.filter (fun p => !(p.1 == n)) = r := by
        rw [List.filter_eq_self]
        intro q hq
        have : q.1 ≠ n := fun e => hnd.1 (List.mem_map.2 ⟨q, hq, e⟩)
        simp [this]
      simp [this]
    | succ i =>
      have hr : r[i]? = some (n, o) := by simpa using h
      have hne : p.1 ≠ n := fun e => hnd.1 (List.mem_map.2 ⟨_, List.mem_of_getElem? hr, e.symm⟩)
      simp [ih hnd.2 hr, hne]

/-! ## Who is ready -/
def readyB (s : DSet) (n : Nm) : Bool := (get s.wait n).any (whole s)
def readyOf (s : DSet) : Option Nm := (waits s).find? (readyB s)

theorem bestOf_spec (s : DSet) : ∀ (l : List (Nm × POp)) (i : Nat) (b : Option (Nat × Nm)),
    (bestOf s l i b = b ∧ ∀ p ∈ l, whole s p.2 = true → ∃ j m, b = some (j, m) ∧ ¬ cmp p.1 m < 0) ∨
    (∃ k n o, l[k]? = some (n, o) ∧ whole s o = true ∧ bestOf s l i b = some (i + k, n) ∧ (∀ j m, b = some (j, m) → cmp n m < 0) ∧ ∀ p ∈ l, whole s p.2 = true → ¬ cmp p.1 n < 0)
  | [], i, b => .inl ⟨rfl, fun p hp => by cases hp⟩
  | (n, o) :: r, i, b => by
    rw [show bestOf s ((n, o) :: r) i b = bestOf s r (i + 1) (if whole s o && (match b with | none => true | some (_, m) => cmp n m < 0) then some (i, n) else b) from rfl]
    by_cases hc : (whole s o && (match b with | none => true | some (_, m) => cmp n m < 0)) = true
    · rw [if_pos hc]
      simp only [Bool.and_eq_true] at hc
      obtain ⟨hw, hb⟩ := hc
      have hb' : ∀ j m, b = some (j, m) → cmp n m < 0 := fun j m e => by subst e; simpa using hb
      rcases bestOf_spec s r (i + 1) (some (i, n)) with ⟨h1, h2⟩ | ⟨k, n', o', h1, h2, h3, h4, h5⟩
      · refine .inr ⟨0, n, o, rfl, hw, by rw [h1]; rfl, hb', fun p hp hwp => ?_⟩
        rcases List.mem_cons.1 hp with rfl | hp
        · rw [cmp_self]; decide
        · obtain ⟨j, m, e, h⟩ := h2 p hp hwp
          cases e; exact h
      · refine .inr ⟨k + 1, n', o', by simpa using h1, h2, by rw [h3]; congr 2; omega, fun j m e => cmp_trans (h4 _ _ rfl) (hb' j m e), fun p hp hwp => ?_⟩
        rcases List.mem_cons.1 hp with rfl | hp
        · have := h4 _ _ rfl
          show ¬ cmp n n' < 0
          rw [cmp_swap]; omega
        · exact h5 p hp hwp
    · rw [if_neg hc]
      have hn : whole s o = true → ∃ j m, b = some (j, m) ∧ ¬ cmp n m < 0 := fun hw => by
        cases b with
        | none => exact absurd (by simp [hw]) hc
        | some q => exact ⟨q.1, q.2, rfl, fun h => hc (by simp [hw, h])⟩
      rcases bestOf_spec s r (i + 1) b with ⟨h1, h2⟩ | ⟨k, n', o', h1, h2, h3, h4, h5⟩
      · refine .inl ⟨h1, fun p hp hwp => ?_⟩
        rcases List.mem_cons.1 hp with rfl | hp
        · exact hn hwp
        · exact h2 p hp hwp
      · refine .inr ⟨k + 1, n', o', by simpa using h1, h2, by rw [h3]; congr 2; omega, h4, fun p hp hwp => ?_⟩
        rcases List.mem_cons.1 hp with rfl | hp
        · obtain ⟨j, m, e, h⟩ := hn hwp
          have := h4 j m e
          intro hlt
          exact h (cmp_trans hlt this)
        · exact h5 p hp hwp

theorem readyB_iff {s : DSet} {n : Nm} : readyB s n = true ↔ ∃ o, get s.wait n = some o ∧ whole s o = true := by
  simp only [readyB]
  cases get s.wait n <;> simp

theorem ready_none {s : DSet} (hnd : (s.wait.map (·.1)).Nodup) (h : readyOf s = none) : bestOf s s.wait 0 none = none := by
  rcases bestOf_spec s s.wait 0 none with ⟨h1, _⟩ | ⟨k, n, o, h1, h2, _⟩
  · exact h1
  · exfalso
    rw [readyOf, List.find?_eq_none] at h
    exact h n (mem_rising.2 (List.mem_map.2 ⟨_, List.mem_of_getElem? h1, rfl⟩)) (readyB_iff.2 ⟨o, get_some_of hnd h1, h2⟩)

theorem ready_some {s : DSet} {n : Nm} (hnd : (s.wait.map (·.1)).Nodup) (h : readyOf s = some n) :
    ∃ i o, bestOf s s.wait 0 none = some (i, n) ∧ s.wait[i]? = some (n, o) ∧ get s.wait n = some o ∧ whole s o = true ∧ s.wait.eraseIdx i = s.wait.filter fun p => !(p.1 == n) := by
  rw [readyOf, List.find?_eq_some_iff_append] at h
  obtain ⟨hr, xs, ys, hl, hnot⟩ := h
  obtain ⟨o, hg, hw⟩ := readyB_iff.1 hr
  rcases bestOf_spec s s.wait 0 none with ⟨_, h2⟩ | ⟨k, n', o', h1, h2, h3, _, h5⟩
  · obtain ⟨j, m, e, _⟩ := h2 _ (get_mem hg) hw
    cases e
  · have hn' : n' ∈ waits s := mem_rising.2 (List.mem_map.2 ⟨_, List.mem_of_getElem? h1, rfl⟩)
    have hr' : readyB s n' = true := readyB_iff.2 ⟨o', get_some_of hnd h1, h2⟩
    have hle : leN n n' = true := by
      have hs := rising_sorted (s.wait.map (·.1))
      change (waits s).Pairwise _ at hs
      rw [hl] at hn' hs
      rw [List.pairwise_append, List.pairwise_cons] at hs
      rcases List.mem_append.1 hn' with h | h
      · have := hnot _ h; rw [hr'] at this; cases this
      · rcases List.mem_cons.1 h with rfl | h
        · simp [leN, ltN_irrefl]
        · exact hs.2.1.1 _ h
    have hlt : ltN n n' = false := ltN_false.2 (h5 _ (get_mem hg) hw)
    have e : n = n' := ltN_anti hlt (by simpa [leN] using hle)
    subst e
    have ho : o' = o := by have := get_some_of hnd h1; rw [hg] at this; cases this; rfl
    subst ho
    exact ⟨k, o', by simpa using h3, h1, hg, hw, erase_filter hnd h1⟩

/-! ## How many stand behind -/
def cnt (l : List (Nm × POp)) (n : Nm) : Nat := (l.map fun p => p.2.preds.countP (· == n)).sum
theorem cnt_append (l : List (Nm × POp)) (p : Nm × POp) (n : Nm) : cnt (l ++ [p]) n = cnt l n + p.2.preds.countP (· == n) := by
  simp [cnt]
theorem behind_cnt (s : DSet) (n : Nm) : behind s n = decide (0 < cnt s.ops n) := by
  rw [behind]
  generalize s.ops = l
  induction l with
  | nil => simp [cnt]
  | cons p r ih =>
    rw [List.any_cons, ih]
    have h : (p.2.preds.any fun q => q == n) = decide (0 < p.2.preds.countP (· == n)) := by
      rw [Bool.eq_iff_iff]
      simp [List.countP_pos_iff]
    rw [h]
    simp only [cnt, List.map_cons, List.sum_cons]
    rw [Bool.eq_iff_iff]
    simp only [Bool.or_eq_true, decide_eq_true_eq]
    constructor
    · rintro (h | h)
      · exact Nat.lt_of_lt_of_le h (Nat.le_add_right _ _)
      · exact Nat.lt_of_lt_of_le (of_decide_eq_true h) (Nat.le_add_left _ _)
    · intro h
      rcases Nat.eq_zero_or_pos (List.countP (fun x => x == n) p.2.preds) with h0 | h0
      · rw [h0, Nat.zero_add] at h; exact .inr (decide_eq_true h)
      · exact .inl h0
end Go.Tr
