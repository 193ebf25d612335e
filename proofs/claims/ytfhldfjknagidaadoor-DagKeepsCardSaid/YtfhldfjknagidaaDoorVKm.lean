/-
  Ranges over a map keyed by names: the range under way, its steps, inside a fence.
-/
import Derived.Test.YtfhldfjknagidaaDoorVKi
import Derived.Shelf.SlIter.Collect
import Derived.Shelf.SlIter.Sorted
set_option linter.unusedSimpArgs false
set_option linter.unusedVariables false
namespace Go.VK
open Go.Tr Go.Proofs Go.RowKit Go.ChangeMaps Go.MapKept

/-- The block b is a map with the entries m, in which no name stands twice; block r walks over it; xs: the names that have come; cnt: how many have not. -/
def RgN (w : World) (b r : Nat) (m : List (Nm × Value)) (xs : List Nm) (cnt : Nat) : Prop :=
  ∃ (es : List (Nm × Value × Nat)) (clock since : Nat) (seen : Array Nat) (c0 : Nat), w.heap[b]? = some (.map (es.map ment).toArray clock) ∧ es.map (fun p => (p.1, p.2.1)) = m ∧ es.Pairwise (fun p q => p.2.2 < q.2.2) ∧ (m.map (·.1)).Nodup ∧
    w.heap[r]? = some (.mapIter (some b) since seen c0) ∧ (∀ p ∈ es, p.2.2 < since) ∧ since ≤ c0 ∧ since ≤ clock ∧ (leftOf (es.map ment).toArray seen).size = cnt ∧
    xs.Nodup ∧ (∀ p ∈ es, p.1 ∈ xs ↔ seen.contains p.2.2 = true) ∧ (∀ x ∈ xs, x ∈ m.map (·.1))

theorem nodup_len : ∀ (xs ys : List Nm), xs.Nodup → (∀ x ∈ xs, x ∈ ys) → xs.length ≤ ys.length
  | [], _, _, _ => Nat.zero_le _
  | x :: r, ys, hn, hs => by
    rw [List.nodup_cons] at hn
    have hx := hs x List.mem_cons_self
    have ih := nodup_len r (ys.erase x) hn.2 fun y hy => (List.mem_erase_of_ne (fun e : y = x => hn.1 (by subst e; exact hy))).2 (hs y (List.mem_cons_of_mem _ hy))
    rw [List.length_erase_of_mem hx] at ih
    have : 0 < ys.length := List.length_pos_of_mem hx
    simp only [List.length_cons]; omega
section
variable {P : Program} {w : World} {b r : Nat} {m : List (Nm × Value)} {xs : List Nm} {cnt : Nat}
theorem RgN.left_eq (h : RgN w b r m xs cnt) : w.rangeLeft b r = cnt := by
  obtain ⟨es, clock, since, seen, c0, hb, _, _, _, hr, _, _, _, hc, _⟩ := h
  simp only [World.rangeLeft, hb, hr]
  exact hc
theorem RgN.ne (h : RgN w b r m xs cnt) : r ≠ b := by
  obtain ⟨es, clock, since, seen, c0, hb, _, _, _, hr, _⟩ := h
  intro e
  rw [e, hb] at hr
  cases hr
theorem RgN.of_walks {w' : World} (h : RgN w b r m xs cnt) (hk : KeepsWalks w w') : RgN w' b r m xs cnt := by
  obtain ⟨es, clock, since, seen, c0, hb, h1, h2, h3, hr, rest⟩ := h
  exact ⟨es, clock, since, seen, c0, hk.same b _ hb rfl, h1, h2, h3, hk.same r _ hr rfl, rest⟩
theorem RgN.iter_walk (h : RgN w b r m xs cnt) : ∃ o : Obj, w.heap[r]? = some o ∧ o.isWalk = true := by
  obtain ⟨es, clock, since, seen, c0, _, _, _, _, hr, _⟩ := h
  exact ⟨_, hr, rfl⟩
theorem RgN.len (h : RgN w b r m xs cnt) : xs.length ≤ m.length := by
  obtain ⟨es, clock, since, seen, c0, _, _, _, _, _, _, _, _, _, hx, _, hs⟩ := h
  have := nodup_len _ _ hx hs
  simpa using this
theorem name_inj {es : List (Nm × Value × Nat)} (hnd : ((es.map fun p => (p.1, p.2.1)).map (·.1)).Nodup) (hpw : es.Pairwise (fun p q => p.2.2 < q.2.2)) {p q : Nm × Value × Nat} (hp : p ∈ es) (hq : q ∈ es) : p.1 = q.1 ↔ p.2.2 = q.2.2 := by
  obtain ⟨i, hi, rfl⟩ := List.getElem_of_mem hp
  obtain ⟨j, hj, rfl⟩ := List.getElem_of_mem hq
  rcases Nat.lt_trichotomy i j with h | h | h
  · have h1 := List.pairwise_iff_getElem.1 hpw i j hi hj h
    have h2 := List.pairwise_iff_getElem.1 hnd i j (by simpa using hi) (by simpa using hj) h
    simp at h2
    exact ⟨fun e => absurd e h2, fun e => by omega⟩
  · subst h; simp
  · have h1 := List.pairwise_iff_getElem.1 hpw j i hj hi h
    have h2 := List.pairwise_iff_getElem.1 hnd j i (by simpa using hj) (by simpa using hi) h
    simp at h2
    exact ⟨fun e => absurd e.symm h2, fun e => by omega⟩

theorem RgN.start {t k e : TypeId} {ob : Obj} (hb : w.heap[b]? = some ob) (hm : MapO ob m) (ht : P.underlying t = some (.map k e)) :
    ∃ w', (Instr.range t (.map (some b))).run P w = .ok (.pointer (some ⟨w.heap.size, 0, none⟩)) w' ∧ RgN w' b w.heap.size m [] m.length ∧ w.grownBy w' none ∧ w'.heap.size = w.heap.size + 1 := by
  obtain ⟨es, c, rfl, rfl, hpw, hlt, hnd⟩ := hm
  have hlb : b < w.heap.size := (Array.getElem?_eq_some_iff.1 hb).1
  refine ⟨_, run_range_map w t k e b (es.map ment).toArray c ht hb, ⟨es, c, c, #[], c, ((MapKept.heap_alloc w _).2 b hlb).trans hb, rfl, hpw, hnd, (MapKept.heap_alloc w _).1, hlt, Nat.le_refl _, Nat.le_refl _, ?_, List.nodup_nil, ?_, ?_⟩, World.grownBy_alloc w _ none, by simp⟩
  · unfold leftOf
    rw [Array.filter_eq_self.2 (fun a _ => by simp)]
    simp
  · intro p hp; simp
  · intro x hx; cases hx

/-- THE STEP. -/
theorem RgN.next (h : RgN w b r m xs cnt) (ty : TypeId) :
    (xs.Perm (m.map (·.1)) ∧ (Instr.next (.pointer (some ⟨r, 0, none⟩)) false ty).run P w = .ok (.tuple #[.bool false]) w) ∨
    ∃ x v w' cnt', x ∉ xs ∧ x ∈ m.map (·.1) ∧ (Instr.next (.pointer (some ⟨r, 0, none⟩)) false ty).run P w = .ok (.tuple #[.bool true, ag (encId x), v]) w' ∧
      RgN w' b r m (xs ++ [x]) cnt' ∧ cnt' < cnt ∧ w.grownBy w' (some r) ∧ w'.heap.size = w.heap.size ∧ (Instr.entry (.pointer (some ⟨r, 0, none⟩))).run P w' = .ok (.tuple #[ag (encId x), v]) w' ∧ w.drawn ≤ w'.drawn := by
  have hne := h.ne
  obtain ⟨es, clock, since, seen, c0, hb, rfl, hpw, hnd, hr, hold, hsc, hsk, rfl, hxn, hxs, hxm⟩ := h
  have hmem : ∀ e ∈ (es.map ment).toArray.toList, ∃ p ∈ es, e = ment p := fun e he => by
    have he' : e ∈ es.map ment := he
    obtain ⟨p, hp, rfl⟩ := List.mem_map.1 he'
    exact ⟨p, hp, rfl⟩
  rcases run_next_at (P := P) w ty r b since c0 seen (es.map ment).toArray clock hr hb (fun e he => by obtain ⟨p, hp, rfl⟩ := hmem e he; exact hold p hp) hsc with ⟨h0, hrun⟩ | ⟨e, he, w1, hal, hrun⟩
  · refine .inl ⟨(List.perm_ext_iff_of_nodup hxn hnd).2 fun x => ⟨hxm x, fun hx => ?_⟩, hrun⟩
    obtain ⟨q, hq, rfl⟩ := List.mem_map.1 hx
    obtain ⟨p, hp, rfl⟩ := List.mem_map.1 hq
    have hmp : ment p ∈ (es.map ment).toArray.toList := List.mem_map.2 ⟨p, hp, rfl⟩
    exact (hxs p hp).2 (all_seen _ seen h0 (ment p) hmp)
  · obtain ⟨hem, hes⟩ := mem_left he
    obtain ⟨p, hp, rfl⟩ := hmem e hem
    have hpx : p.1 ∉ xs := fun hx => by
      have := (hxs p hp).1 hx
      have h2 : seen.contains p.2.2 = false := hes
      rw [h2] at this; cases this
    have hr1 : w1.heap[r]? = some (.mapIter (some b) since seen c0) := by rcases hal with rfl | rfl <;> exact hr
    have hb1 : w1.heap[b]? = some (.map (es.map ment).toArray clock) := by rcases hal with rfl | rfl <;> exact hb
    have hset := heap_set (o' := .mapIter (some b) since (seen.push p.2.2) clock) hr1
    have hb' : (setBlock w1 r (.mapIter (some b) since (seen.push p.2.2) clock)).heap[b]? = some (.map (es.map ment).toArray clock) := (hset.2 b (fun e1 => hne e1.symm)).trans hb1
    have hborn : ((es.map ment).toArray.toList.map (·.born)).Nodup := by
      have : ((es.map ment).toArray.toList.map (·.born)) = es.map (·.2.2) := by simp [ment]
      rw [this, List.Nodup, List.pairwise_map]
      exact hpw.imp fun h => Nat.ne_of_lt h
    refine .inr ⟨p.1, p.2.1, _, _, hpx, List.mem_map.2 ⟨(p.1, p.2.1), List.mem_map.2 ⟨p, hp, rfl⟩, rfl⟩, hrun,
      ⟨es, clock, since, seen.push p.2.2, clock, hb', rfl, hpw, hnd, hset.1, hold, hsk, hsk, rfl, ?_, fun q hq => ?_, fun x hx => ?_⟩, left_shrinks _ seen (ment p) he, ?_, ?_,
      run_entry_at _ r b since seen (es.map ment).toArray clock (ment p) hset.1 hb' hem hborn, by rcases hal with rfl | rfl; exact Nat.le_refl _; exact Nat.le_succ _⟩
    · rw [List.nodup_append]
      exact ⟨hxn, by simp, fun a ha c hc => by simp at hc; subst hc; exact fun e => hpx (e ▸ ha)⟩
    · rw [List.mem_append, List.mem_singleton, hxs q hq, contains_push, name_inj hnd hpw hq hp]
      simp [Bool.or_eq_true]
    · rcases List.mem_append.1 hx with hx | hx
      · exact hxm x hx
      · rw [List.mem_singleton.1 hx]; exact List.mem_map.2 ⟨(p.1, p.2.1), List.mem_map.2 ⟨p, hp, rfl⟩, rfl⟩
    · rcases hal with rfl | rfl <;> exact ⟨rfl, rfl, rfl, by simp [setBlock], fun i _ hi => hset.2 i (fun e1 => hi (by rw [e1]))⟩
    · rcases hal with rfl | rfl <;> simp [setBlock]
end

section
variable {F : Fence} {n : Nat} {P : Program} (w : World) {ops : Array Oper} {rest : List Oper} {o : Oper} {a : Act} {Q : Exit → Act → World → Prop}
theorem wpListIn_range_nm (hg : o.guard = none) (x : Operand) (t : TypeId) (hop : o.op = Op.range t x) (k e : TypeId) (ht : P.underlying t = some (.map k e)) (b : Nat) (ob : Obj) (m : List (Nm × Value))
    (hm : a.eval x = .map (some b)) (hb : w.heap[b]? = some ob) (hM : MapO ob m)
    (hK : ∀ w', RgN w' b w.heap.size m [] m.length → w.grownBy w' none → w'.heap.size = w.heap.size + 1 → wpListIn F n P ops Q rest (a.put o.dst (.pointer (some ⟨w.heap.size, 0, none⟩))) w') :
    wpListIn F n P ops Q (o :: rest) a w := by
  refine wpListIn_plain hg fun K' hK' => ?_
  obtain ⟨w', hrun, r1, r2, r3⟩ := RgN.start (P := P) hb hM ht
  unfold Oper.wpIn
  refine ⟨?_, ?_⟩
  · simp [Oper.about, hop]
  · rw [Oper.semAt_plain F _ _ (by rw [hop]; intro c hc'; cases hc')]
    simp [execOp, hop, hm, hrun, Result.andThen]
    exact hK' _ _ (hK w' r1 r2 r3)
theorem wpListIn_next_nm (hg : o.guard = none) (it : Operand) (hop : o.op = Op.next it false) (b r : Nat) (m : List (Nm × Value)) (xs : List Nm) (cnt : Nat)
    (hit : a.eval it = .pointer (some ⟨r, 0, none⟩)) (h : RgN w b r m xs cnt)
    (hDone : xs.Perm (m.map (·.1)) → wpListIn F n P ops Q rest (a.put o.dst (.tuple #[.bool false])) w)
    (hMore : ∀ (x : Nm) (v : Value) (w' : World) (cnt' : Nat), x ∉ xs → x ∈ m.map (·.1) → RgN w' b r m (xs ++ [x]) cnt' → cnt' < cnt → w.grownBy w' (some r) → w'.heap.size = w.heap.size →
      (Instr.entry (.pointer (some ⟨r, 0, none⟩))).run P w' = .ok (.tuple #[ag (encId x), v]) w' → wpListIn F n P ops Q rest (a.put o.dst (.tuple #[.bool true, ag (encId x), v])) w') :
    wpListIn F n P ops Q (o :: rest) a w := by
  refine wpListIn_plain hg fun K' hK' => ?_
  unfold Oper.wpIn
  refine ⟨by simp [Oper.about, hop], ?_⟩
  rw [Oper.semAt_plain F _ _ (by rw [hop]; intro c hc'; cases hc')]
  rcases h.next (P := P) o.type with ⟨hp, hrun⟩ | ⟨x, v, w', cnt', h1, h2, hrun, hrg, hlt, hgr, hsz, hen, _⟩
  · simp [execOp, hop, hit, hrun, Result.andThen]
    exact hK' _ _ (hDone hp)
  · simp [execOp, hop, hit, hrun, Result.andThen]
    exact hK' _ _ (hMore x v w' cnt' h1 h2 hrg hlt hgr hsz hen)
end
end Go.VK
