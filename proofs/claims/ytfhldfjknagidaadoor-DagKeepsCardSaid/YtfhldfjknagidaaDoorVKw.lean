/-
  slices.SortFunc of names, by the shelf's contract; the names of a map, sorted.
-/
import Derived.Test.YtfhldfjknagidaaDoorVKs16
import Derived.Test.YtfhldfjknagidaaDoorVKlay
set_option linter.unusedSimpArgs false
set_option linter.unusedVariables false
set_option linter.unnecessarySimpa false
set_option linter.all false
namespace Go.Proofs.YtfhldfjknagidaaDoor
open Go.VK Go.Tr Go.Sort
set_option maxRecDepth 20000
attribute [local irreducible] Go.Tr.sha
/-- All that a world holds, as what stands for good. -/
def ghostOf (w : World) : Gh := ⟨fun i => w.heap[i]?, w.os, w.tape, w.output, w.drawn⟩
theorem sat_ghost (w : World) : Sat w (ghostOf w) [] := ⟨rfl, rfl, rfl, Nat.le_refl _, fun _ _ h => h, (fun p hp => by cases hp), List.nodup_nil⟩
theorem grown_of_sat {w w' : World} (h : Sat w' (ghostOf w) []) : ∃ q os, w' = grow (w.drewN q) os := by
  have hsz : w.heap.size ≤ w'.heap.size := by
    rcases Nat.eq_zero_or_pos w.heap.size with h0 | h0
    · omega
    · have h1 := h.imm (w.heap.size - 1) w.heap[w.heap.size - 1] (Array.getElem?_eq_getElem (by omega))
      have := (Array.getElem?_eq_some_iff.1 h1).1
      omega
  refine ⟨w'.drawn - w.drawn, w'.heap.extract w.heap.size w'.heap.size, ?_⟩
  have hd : w.drawn + (w'.drawn - w.drawn) = w'.drawn := by
    have : w.drawn ≤ w'.drawn := h.drawn
    omega
  have hh : w'.heap = w.heap ++ w'.heap.extract w.heap.size w'.heap.size := by
    apply Array.ext_getElem?
    intro i
    rw [Array.getElem?_append]
    split
    · rename_i hi
      have h1 := h.imm i w.heap[i] (Array.getElem?_eq_getElem hi)
      rw [h1, Array.getElem?_eq_getElem hi]
    · rename_i hi
      rw [Array.getElem?_extract]
      split
      · congr 1; omega
      · rw [Array.getElem?_eq_none (by omega)]
  have ho : w'.os = w.os := h.os
  have ht : w'.tape = w.tape := h.tape
  have hu : w'.output = w.output := h.output
  cases w' with
  | mk hp tp dr os ou =>
    simp only [grow, World.drewN] at *
    simp only [World.mk.injEq]
    exact ⟨hh, ht, hd.symm, ho, hu⟩
theorem cmp_exact (x y : Nm) (w : World) : Calls Tryd.prog 50 #[ag (encId x), ag (encId y)] w fun e w' => e = .returned (i64 (cmp x y)) ∧ ∃ q os, w' = grow (w.drewN q) os := by
  refine (cmp_cc (ghostOf w) [] x y w (sat_ghost w)).mono ?_
  rintro e w' ⟨v, H', L', rfl, _, hS, rfl, rfl, rfl⟩
  exact ⟨rfl, grown_of_sat hS⟩
theorem flatK_eq (xs : List Nm) : (flatK encId 32 xs.toArray).toList = xs.flatMap encId := by
  have hl : (xs.flatMap encId).length = xs.length * 32 := flat_len encId_length xs
  apply List.ext_getElem?
  intro t
  by_cases ht : t < xs.length * 32
  · have h1 : t < (flatK encId 32 xs.toArray).size := by simpa using ht
    have hq : t / 32 < xs.length := by omega
    have h2 := flat_seg encId_length xs (t / 32) _ (List.getElem?_eq_getElem hq) (t % 32) _ (List.getElem?_eq_getElem (by rw [encId_length]; omega))
    have e : t / 32 * 32 + t % 32 = t := by omega
    rw [e] at h2
    rw [h2, Array.getElem?_toList, Array.getElem?_eq_getElem h1]
    congr 1
    rw [← getElem!_pos _ t h1, get_flatK _ _ _ t (by simpa using ht)]
    have h3 : xs.toArray[t / 32]! = xs[t / 32] := by
      rw [getElem!_pos _ _ (by simpa using hq)]; simp
    rw [h3]
    exact getElem!_pos _ _ _
  · rw [List.getElem?_eq_none (by simpa using Nat.le_of_not_lt ht), List.getElem?_eq_none (by rw [hl]; omega)]
theorem putCells_eq (cs cs' rest : List Value) (hl : cs'.length = cs.length) : putCells id 0 cs'.toArray (cs ++ rest).toArray = (cs' ++ rest).toArray := by
  apply Array.ext_getElem?
  intro i
  simp only [putCells, Array.getElem?_mapIdx, List.getElem?_toArray, List.size_toArray, Nat.zero_le, true_and, Nat.zero_add, Nat.sub_zero, id]
  by_cases hi : i < cs.length
  · rw [List.getElem?_append_left hi, List.getElem?_append_left (by omega), List.getElem?_eq_getElem hi, List.getElem?_eq_getElem (by omega)]
    simp only [Option.map_some]
    rw [if_pos (by omega), getElem!_pos _ i (by simp; omega)]
    simp
  · rw [List.getElem?_append_right (by omega), List.getElem?_append_right (by omega), hl]
    cases rest[i - cs.length]? with
    | none => rfl
    | some v => simp only [Option.map_some]; rw [if_neg (by omega)]
theorem Sat.grow {w : World} {H : Gh} {L : Chunks} (h : Sat w H L) (os : Array Obj) : Sat (Go.Sort.grow w os) H L := by
  have keep : ∀ (i : Nat) (o : Obj), w.heap[i]? = some o → (Go.Sort.grow w os).heap[i]? = some o := fun i o hi => by
    have hlt := (Array.getElem?_eq_some_iff.1 hi).1
    show (w.heap ++ os)[i]? = _
    rw [Array.getElem?_append_left hlt]; exact hi
  exact ⟨h.os, h.tape, h.output, h.drawn, fun i o hi => keep i o (h.imm i o hi), fun p hp => ⟨keep _ _ (h.own p hp).1, (h.own p hp).2⟩, h.nd⟩
theorem sortFunc_cc (H : Gh) (L : Chunks) {C : Chunks} {v : Value} {xs : List Nm} (hO : Ow 34 32 C v xs.length (xs.flatMap encId)) (hn : xs.length < 16777216) :
    CC Tryd.prog 70 #[v, .func (.func 50) #[] #[]] H (C ++ L) (fun u H' L' => ∃ C', Ow 34 32 C' v xs.length ((rising xs).flatMap encId) ∧ u = .tuple #[] ∧ H = H' ∧ C' ++ L = L') := by
  intro w hS
  obtain ⟨hlen, h | ⟨b, cap, rest, z, rfl, hc, hr, rfl, hz⟩⟩ := hO
  · obtain ⟨rfl, h0, rfl⟩ := h
    have hx : xs = [] := List.length_eq_zero_iff.1 h0
    subst hx
    have h := AnyF.slices_SortFunc_none Tryd.sortIds none 0 (.func (.func 50) #[] #[]) w
    change Calls Tryd.prog 70 _ _ _ at h
    refine h.mono ?_
    rintro e w' ⟨rfl, rfl⟩
    exact ⟨_, H, _, rfl, Gh.le_refl _, hS, [], Ow.nil, rfl, rfl, rfl⟩
  · have hb := (hS.own (b, .cells (xs.flatMap encId ++ rest).toArray 34 z) (by simp)).1
    have hblk : b < w.heap.size := (Array.getElem?_eq_some_iff.1 hb).1
    have hH : HoldsK encId 32 w b 0 xs.toArray := by
      intro j hj
      have hj2 : j < (xs.flatMap encId).length := by rw [hlen]; simpa using hj
      constructor
      · simp only [World.cell?, hb, Nat.zero_add, id, Option.isSome_none, Bool.false_eq_true, if_false, List.getElem?_toArray]
        rw [List.getElem?_append_left hj2, ← flatK_eq, Array.getElem?_toList, Array.getElem?_eq_getElem hj, getElem!_pos _ j hj]
      · simp only [World.frozen?, hb, Nat.zero_add]
        rcases hz with rfl | hz
        · simp
        · have : ¬ (z.1 ≤ j) := by rw [List.length_append] at hz; omega
          simp [this]
    have hcmp : CmpLays Tryd.prog 50 #[] encId 32 cmp b 0 xs.toArray.size w := fun m os dk _ x y => cmp_exact x y _
    have h := AnyQ.slices_SortFunc_total Tryd.sortIds 32 Tryd.isAgg34 Tryd.sizeOf34 encId encId_length encId_ones cmp swo_cmp 50 #[] b 0 cap xs.toArray w Tryd.en50 hcmp hH hblk (by simp; omega) (fun x y h1 h2 => ltN_anti h1 h2)
    change Calls Tryd.prog 70 _ _ _ at h
    simp only [List.size_toArray] at h
    refine h.mono ?_
    rintro e w' ⟨rfl, q, os, rfl⟩
    have hm : xs.toArray.toList.mergeSort (fun x y => !(ltOf cmp) y x) = rising xs := mergeSort_rising (List.Perm.refl _)
    rw [hm]
    have hrl := rising_length xs
    have hfl : ((rising xs).flatMap encId).length = (xs.flatMap encId).length := by rw [flat_len encId_length, flat_len encId_length, hrl]
    have hput : Sat (putRowK encId 32 (Sort.ahead w q) b 0 (rising xs).toArray) H ((b, .cells ((rising xs).flatMap encId ++ rest).toArray 34 z) :: L) := by
      refine Sat.put (k := 0) (L := (b, .cells (xs.flatMap encId ++ rest).toArray 34 z) :: L) hS rfl _ rfl rfl (Nat.le_add_right _ _) rfl ?_ fun i hi => ?_
      · show (w.heap.modify b _)[b]? = _
        rw [Array.getElem?_modify, if_pos rfl, hb]
        simp only [Option.map_some, onCells]
        have e : flatK encId 32 (rising xs).toArray = ((rising xs).flatMap encId).toArray := by
          apply Array.ext'; rw [flatK_eq]
        rw [e, putCells_eq _ _ _ hfl]
      · show (w.heap.modify b _)[i]? = _
        rw [Array.getElem?_modify, if_neg (fun e => hi e.symm)]
    exact ⟨_, H, _, rfl, Gh.le_refl _, Sat.grow hput os, [(b, .cells ((rising xs).flatMap encId ++ rest).toArray 34 z)], ⟨by rw [hfl]; exact hlen, .inr ⟨b, cap, rest, z, rfl, hc, hr, rfl, by rcases hz with h | h; exact .inl h; exact .inr (by rw [List.length_append, hfl]; simpa using h)⟩⟩, rfl, rfl, rfl⟩
end Go.Proofs.YtfhldfjknagidaaDoor
