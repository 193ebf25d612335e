/-
  slices.SortFunc of names, by the shelf's contract; the names of a map, sorted.
-/
import Derived.Test.YtfhldfjknagidaaDoorLineDepthsM3
import Derived.Test.YtfhldfjknagidaaDoorLineDepthsM4
import Derived.Test.YtfhldfjknagidaaDoorLineDepthsM5
set_option linter.unusedSimpArgs false
set_option linter.unusedVariables false
set_option linter.unnecessarySimpa false
set_option linter.all false
namespace Go.Proofs.YtfhldfjknagidaaDoor
open Go.VK Go.Tr Go.Sort
set_option maxRecDepth 20000
attribute [local irreducible] Go.Tr.sha
/-- All that a world holds, as what stands for good. -/
def ghostOf (w : World) : Gh := ⟨fun i => w.heap[i]?, w.os, w.tape, w.output, w.drawn⟩
theorem sat_ghost (w : World) : Sat w (ghostOf w) [] := ⟨rfl, rfl, rfl, Nat.le_refl _, fun _ _ h => h, (fun p hp => by cases hp), List.nodup_nil⟩
theorem grown_of_sat {w w' : World} (h : Sat w' (ghostOf w) []) : ∃ q os, w' = grow (w.drewN q) os := by
  have hsz : w.heap.size ≤ w'.heap.size := by
    rcases Nat.eq_zero_or_pos w.heap.size with h0 | h0
    · omega
    · have h1 := h.imm (w.heap.size - 1) w.heap[w.heap.size - 1] (Array.getElem?_eq_getElem (by omega))
      have := (Array.getElem?_eq_some_iff.1 h1).1
      omega
  refine ⟨w'.drawn - w.drawn, w'.heap.extract w.heap.size w'.heap.size, ?_⟩
  have hd : w.drawn + (w'.drawn - w.drawn) = w'.drawn := by
    have : w.drawn ≤ w'.drawn := h.drawn
    omega
  have hh : w'.heap = w.heap ++ w'.heap.extract w.heap.size w'.heap.size := by
    apply Array.ext_getElem?
    intro i
    rw [Array.getElem?_append]
    split
    · rename_i hi
      have h1 := h.imm i w.heap[i] (Array.getElem?_eq_getElem hi)
      rw [h1, Array.getElem?_eq_getElem hi]
    · rename_i hi
      rw [Array.getElem?_extract]
      split
      · congr 1; omega
      · rw [Array.getElem?_eq_none (by omega)]
  have ho : w'.os = w.os := h.os
  have ht : w'.tape = w.tape := h.tape
  have hu : w'.output = w.output := h.output
  cases w' with
  | mk hp tp dr os ou =>
    simp only [grow, World.drewN] at *
    simp only [World.mk.injEq]
    exact ⟨hh, ht, hd.symm, ho, hu⟩
theorem cmp_exact (x y : Nm) (w : World) : Calls Tryd.prog 50 #[ag (encId x), ag (encId y)] w fun e w' => e = .returned (i64 (cmp x y)) ∧ ∃ q os, w' = grow (w.drewN q) os := by
  refine (cmp_cc (ghostOf w) [] x y w (sat_ghost w)).mono ?_
  rintro e w' ⟨v, H', L', rfl, _, hS, rfl, rfl, rfl⟩
  exact ⟨rfl, grown_of_sat hS⟩
theorem flatK_eq (xs : List Nm) : (flatK encId 32 xs.toArray).toList = xs.flatMap encId := by
  have hl : (xs.flatMap encId).length = xs.length * 32 := flat_len encId_length xs
  apply List.ext_getElem?
  intro t
  by_cases ht : t < xs.length * 32
  · have h1 : t < (flatK encId 32 xs.toArray).size := by simpa using ht
    have hq : t / 32 < xs.length := by omega
    have h2 := flat_seg encId_length xs (t / 32) _ (List.getElem?_eq_getElem hq) (t % 32) _ (List.getElem?_eq_getElem (by rw [encId_length]; omega))
    have e : t / 32 * 32 + t % 32 = t := by omega
    rw [e] at h2
    rw [h2, Array.getElem?_toList, Array.getElem?_eq_getElem h1]
    congr 1
    rw [← getElem!_pos _ t h1, get_flatK _ _ _ t (by simpa using ht)]
    have h3 : xs.toArray[t / 32]! = xs[t / 32] := by
      rw [getElem!_pos _ _ (by simpa using hq)]; simp
    rw [h3]
    exact getElem!_pos _ _ _
  · rw [List.getElem?_eq_none (by simpa using Nat.le_of_not_lt ht), List.getElem?_eq_none (by rw [hl]; omega)]
theorem putCells_eq (cs cs' rest : List Value) (hl : cs'.length = cs.length) : putCells id 0 cs'.toArray (cs ++ rest).toArray = (cs' ++ rest).toArray := by
  apply Array.ext_getElem?
  intro i
  simp only [putCells, Array.getElem?_mapIdx, List.getElem?_toArray, List.size_toArray, Nat.zero_le, true_and, Nat.zero_add, Nat.sub_zero, id]
  by_cases hi : i < cs.length
  · rw [List.getElem?_append_left hi, List.getElem?_append_left (by omega), List.getElem?_eq_getElem hi, List.getElem?_eq_getElem (by omega)]
    simp only [Option.map_some]
    rw [if_pos (by omega), getElem!_pos _ i (by simp; omega)]
    simp
  · rw [List.getElem?_append_right (by omega), List.getElem?_append_right (by omega), hl]
    cases rest[i - cs.length]? with
    | none => rfl
    | some v => simp only [Option.map_some]; rw [if_neg (by omega)]
theorem Sat.grow {w : World} {H : Gh} {L : Chunks} (h : Sat w H L) (os : Array Obj) : Sat (Go.Sort.grow w os) H L := by
  have keep : ∀ (i : Nat) (o : Obj), w.heap[i]? = some o → (Go.Sort.grow w os).heap[i]? = some o := fun i o hi => by
    have hlt := (Array.getElem?_eq_some_iff.1 hi).1
    show (w.heap ++ os)[i]? = _
    rw [Array.getElem?_append_left hlt]; exact hi
  exact ⟨h.os, h.tape, h.output, h.drawn, fun i o hi => keep i o (h.imm i o hi), fun p hp => ⟨keep _ _ (h.own p hp).1, (h.own p hp).2⟩, h.nd⟩
/-- What a world holds beside L, as what stands for good. -/
def ghostBut (w : World) (L : Chunks) : Gh := ⟨fun i => if i ∈ L.map (·.1) then none else w.heap[i]?, w.os, w.tape, w.output, w.drawn⟩
theorem sat_ghostBut {w : World} {L : Chunks} (hL : ∀ p ∈ L, w.heap[p.1]? = some p.2) (hn : (L.map (·.1)).Nodup) : Sat w (ghostBut w L) L :=
  ⟨rfl, rfl, rfl, Nat.le_refl _, fun b o h => by simp only [ghostBut] at h; split at h; cases h; exact h, fun p hp => ⟨hL p hp, by simp only [ghostBut]; rw [if_pos (List.mem_map.2 ⟨p, hp, rfl⟩)]⟩, hn⟩
theorem grown_of_but {w w' : World} {L : Chunks} (hL : ∀ p ∈ L, w.heap[p.1]? = some p.2) (h : Sat w' (ghostBut w L) L) : ∃ q os, w' = grow (w.drewN q) os := by
  refine grown_of_sat ⟨h.os, h.tape, h.output, h.drawn, fun b o hb => ?_, (fun p hp => by cases hp), List.nodup_nil⟩
  by_cases hm : b ∈ L.map (·.1)
  · obtain ⟨p, hp, rfl⟩ := List.mem_map.1 hm
    have h1 : w.heap[p.1]? = some o := hb
    rw [hL p hp] at h1
    rw [(h.own p hp).1]; exact h1
  · exact h.imm b o (by show (if b ∈ L.map (·.1) then none else w.heap[b]?) = some o; rw [if_neg hm]; exact hb)
theorem exact_of_cc {w : World} {L : Chunks} {g : Nat} {args : Array Value} {v : Value} (hL : ∀ p ∈ L, w.heap[p.1]? = some p.2) (hn : (L.map (·.1)).Nodup)
    (h : ∀ H2 : Gh, CC Tryd.prog g args H2 L (fun u H' L' => u = v ∧ H2 = H' ∧ L = L')) : Calls Tryd.prog g args w fun e w' => e = .returned v ∧ ∃ q os, w' = grow (w.drewN q) os := by
  refine (h (ghostBut w L) w (sat_ghostBut hL hn)).mono ?_
  rintro e w' ⟨u, H', L', rfl, _, hS, rfl, rfl, rfl⟩
  exact ⟨rfl, grown_of_but hL hS⟩
theorem sat_sortWorld {w : World} {H : Gh} {L : Chunks} {b m : Nat} {cs rest : List Value} {T : TypeId} {z : Nat × Nat} (hS : Sat w H ((b, .cells (cs ++ rest).toArray T z) :: L)) (d : List Nm) (hl : (d.flatMap encId).length = cs.length) (os : Array Obj) :
    Sat (sortWorldK encId 32 w b 0 m d.toArray os) H ((b, .cells (d.flatMap encId ++ rest).toArray T z) :: L) := by
  have hb := (hS.own (b, .cells (cs ++ rest).toArray T z) List.mem_cons_self).1
  have hput : Sat (putRowK encId 32 (Sort.ahead w m) b 0 d.toArray) H ((b, .cells (d.flatMap encId ++ rest).toArray T z) :: L) := by
    refine Sat.put (k := 0) (L := (b, .cells (cs ++ rest).toArray T z) :: L) hS rfl _ rfl rfl (Nat.le_add_right _ _) rfl ?_ fun i hi => ?_
    · show (w.heap.modify b _)[b]? = _
      rw [Array.getElem?_modify, if_pos rfl, hb]
      simp only [Option.map_some, onCells]
      have e : flatK encId 32 d.toArray = (d.flatMap encId).toArray := by
        apply Array.ext'; rw [flatK_eq]
      rw [e, putCells_eq _ _ _ hl]
    · show (w.heap.modify b _)[i]? = _
      rw [Array.getElem?_modify, if_neg (fun e => hi e.symm)]
  exact Sat.grow hput os
theorem sortFunc_gen (H : Gh) (L : Chunks) {C : Chunks} {v : Value} {xs : List Nm} (cf : Nm → Nm → Int) (hcf : Go.Sort.SWO (ltOf cf)) (hT : ∀ x y, ltOf cf x y = false → ltOf cf y x = false → x = y) (g : Nat) (cb : Array Value) (eg : Enters Tryd.prog g)
    (hcmp : ∀ (W' : World) (C' : Chunks), Sat W' H (C' ++ L) → ∀ x y, Calls Tryd.prog g (#[ag (encId x), ag (encId y)] ++ cb) W' fun e w' => e = .returned (i64 (cf x y)) ∧ ∃ q os, w' = grow (W'.drewN q) os)
    (hO : Ow 34 32 C v xs.length (xs.flatMap encId)) (hn : xs.length < 16777216) :
    CC Tryd.prog 70 #[v, .func (.func g) #[] cb] H (C ++ L) (fun u H' L' => ∃ C', Ow 34 32 C' v xs.length ((xs.mergeSort fun x y => !(ltOf cf) y x).flatMap encId) ∧ u = .tuple #[] ∧ H = H' ∧ C' ++ L = L') := by
  intro w hS
  obtain ⟨hlen, h | ⟨b, cap, rest, z, rfl, hc, hr, rfl, hz⟩⟩ := hO
  · obtain ⟨rfl, h0, rfl⟩ := h
    have hx : xs = [] := List.length_eq_zero_iff.1 h0
    subst hx
    have h := AnyF.slices_SortFunc_none Tryd.sortIds none 0 (.func (.func g) #[] cb) w
    change Calls Tryd.prog 70 _ _ _ at h
    refine h.mono ?_
    rintro e w' ⟨rfl, rfl⟩
    exact ⟨_, H, _, rfl, Gh.le_refl _, hS, [], by simpa using Ow.nil, rfl, rfl, rfl⟩
  · have hb := (hS.own (b, .cells (xs.flatMap encId ++ rest).toArray 34 z) (by simp)).1
    have hblk : b < w.heap.size := (Array.getElem?_eq_some_iff.1 hb).1
    have hH : HoldsK encId 32 w b 0 xs.toArray := by
      intro j hj
      have hj2 : j < (xs.flatMap encId).length := by rw [hlen]; simpa using hj
      constructor
      · simp only [World.cell?, hb, Nat.zero_add, id, Option.isSome_none, Bool.false_eq_true, if_false, List.getElem?_toArray]
        rw [List.getElem?_append_left hj2, ← flatK_eq, Array.getElem?_toList, Array.getElem?_eq_getElem hj, getElem!_pos _ j hj]
      · simp only [World.frozen?, hb, Nat.zero_add]
        rcases hz with rfl | hz
        · simp
        · have : ¬ (z.1 ≤ j) := by rw [List.length_append] at hz; omega
          simp [this]
    have hlays : CmpLays Tryd.prog g cb encId 32 cf b 0 xs.toArray.size w := fun m os dk hdk x y => by
      have h1 := sat_sortWorld (m := m) hS dk.toList (by rw [flat_len encId_length, flat_len encId_length, Array.length_toList, hdk, List.size_toArray]) os
      rw [Array.toArray_toList] at h1
      exact hcmp _ [_] h1 x y
    have h := AnyQ.slices_SortFunc_total Tryd.sortIds 32 Tryd.isAgg34 Tryd.sizeOf34 encId encId_length encId_ones cf hcf g cb b 0 cap xs.toArray w eg hlays hH hblk (by simp; omega) hT
    change Calls Tryd.prog 70 _ _ _ at h
    simp only [List.size_toArray] at h
    refine h.mono ?_
    rintro e w' ⟨rfl, q, os, rfl⟩
    have hfl : ((xs.mergeSort fun x y => !(ltOf cf) y x).flatMap encId).length = (xs.flatMap encId).length := by rw [flat_len encId_length, flat_len encId_length, List.length_mergeSort]
    have hput := sat_sortWorld (m := q) hS (xs.mergeSort fun x y => !(ltOf cf) y x) hfl os
    exact ⟨_, H, _, rfl, Gh.le_refl _, hput, [(b, .cells ((xs.mergeSort fun x y => !(ltOf cf) y x).flatMap encId ++ rest).toArray 34 z)], ⟨by rw [hfl]; exact hlen, .inr ⟨b, cap, rest, z, rfl, hc, hr, rfl, by rcases hz with h | h; exact .inl h; exact .inr (by rw [List.length_append, hfl]; simpa using h)⟩⟩, rfl, rfl, rfl⟩
theorem sortFunc_cc (H : Gh) (L : Chunks) {C : Chunks} {v : Value} {xs : List Nm} (hO : Ow 34 32 C v xs.length (xs.flatMap encId)) (hn : xs.length < 16777216) :
    CC Tryd.prog 70 #[v, .func (.func 50) #[] #[]] H (C ++ L) (fun u H' L' => ∃ C', Ow 34 32 C' v xs.length ((rising xs).flatMap encId) ∧ u = .tuple #[] ∧ H = H' ∧ C' ++ L = L') := by
  have h := sortFunc_gen H L cmp swo_cmp (fun x y h1 h2 => ltN_anti h1 h2) 50 #[] Tryd.en50 (fun W' _ _ x y => cmp_exact x y W') hO hn
  rw [mergeSort_rising (List.Perm.refl xs)] at h
  exact h
end Go.Proofs.YtfhldfjknagidaaDoor

/-
  Walks: the program's set of operations: what only looks; clones; a new set; sorted names.
-/
set_option linter.unusedSimpArgs false
set_option linter.unusedVariables false
set_option linter.unnecessarySimpa false
set_option linter.all false
namespace Go.Proofs.YtfhldfjknagidaaDoor
open Go.VK Go.Tr
set_option maxRecDepth 20000
attribute [local irreducible] Go.Tr.sha
theorem Tryd.tmi : TMap Tryd.prog 81 34 3 5 := ⟨Tryd.underlying81, Tryd.tb34⟩
theorem Tryd.zop (w : World) : (zeroValue 38).run Tryd.prog w = .ok (ag (encOp zeroOp nilS)) w := Tryd.zeroValue38 w
theorem Tryd.zint (w : World) : (zeroValue 3).run Tryd.prog w = .ok (i64 0) w := Tryd.zeroValue3 w
/-- The three maps say what the set holds. -/
structure DRep (H : Gh) (s : DSet) (ob ow ot : Obj) : Prop where
  ops : EntO H ob s.ops
  wait : EntO H ow s.wait
  cnt : CntO ot (cnt s.ops)
  nd : (s.ops.map (·.1) ++ s.wait.map (·.1)).Nodup
  small : ∀ p ∈ s.ops ++ s.wait, p.2.preds.length ≤ 32
theorem DRep.up {H H' : Gh} {s : DSet} {ob ow ot : Obj} (h : DRep H s ob ow ot) (hH : H ≤ H') : DRep H' s ob ow ot := ⟨h.ops.up hH, h.wait.up hH, h.cnt, h.nd, h.small⟩
/-- A set as it is looked at. -/
structure DView (H : Gh) (L : Chunks) (b bo bw bt : Nat) (s : DSet) (ob ow ot : Obj) : Prop where
  cells : Cells H L b [.map (some bo), .map (some bw), .map (some bt)]
  mo : (bo, ob) ∈ L
  mw : (bw, ow) ∈ L
  mt : (bt, ot) ∈ L
  ops : EntO H ob s.ops
  wait : EntO H ow s.wait
  cnt : CntO ot (cnt s.ops)
theorem DView.mono {H H' : Gh} {L L' : Chunks} {b bo bw bt : Nat} {s : DSet} {ob ow ot : Obj} (h : DView H L b bo bw bt s ob ow ot) (hH : H ≤ H') (hL : ∀ x ∈ L, x ∈ L') : DView H' L' b bo bw bt s ob ow ot :=
  ⟨h.cells.mono hH hL, hL _ h.mo, hL _ h.mw, hL _ h.mt, h.ops.up hH, h.wait.up hH, h.cnt⟩
/-- What a look-up of an operation gives, whatever it finds. -/
theorem look_op {H : Gh} {o : Obj} {l : List (Nm × POp)} (h : EntO H o l) : ∃ m, MapO o m ∧ m.map (·.1) = l.map (·.1) ∧ ∀ n, ∃ q pq, (VK.look m n).getD (ag (encOp zeroOp nilS)) = ag (encOp q pq) ∧ (VK.look m n).isSome = has l n ∧ Ids H [] pq q.preds ∧
    (Tr.get l n = some q ∨ (Tr.get l n = none ∧ q = zeroOp ∧ pq = nilS)) := by
  obtain ⟨m, h1, h2, h3⟩ := h.look
  refine ⟨m, h1, h2, fun n => ?_⟩
  rcases h3 n with ⟨h4, h5⟩ | ⟨op, pv, h4, h5, h6⟩
  · exact ⟨zeroOp, nilS, by rw [h5]; rfl, by rw [h5]; exact (get_none.1 h4).symm, SlT.nil, .inr ⟨h4, rfl, rfl⟩⟩
  · exact ⟨op, pv, by rw [h5]; rfl, by rw [h5, ← get_isSome, h4]; rfl, h6, .inl h4⟩
theorem deepest_step2 {s : DSet} {pq : Value} {l : List Nm} {k : Nat} {n : Nm} {q : POp} (hn : l[k]? = some n) (ho : Tr.get s.ops n = some q ∨ (Tr.get s.ops n = none ∧ q = zeroOp ∧ pq = nilS)) : deepest s (l.take (k + 1)) = max (deepest s (l.take k)) q.depth := by
  rw [List.take_add_one, hn]
  rcases ho with ho | ⟨ho, rfl, _⟩ <;> simp [deepest, List.foldl_append, ho, zeroOp]
def lacksOf (s : DSet) (o : POp) : List Nm := o.preds.filter fun n => !has s.ops n
theorem lacks_whole (s : DSet) (o : POp) : decide ((0 : Int) < ((lacksOf s o).length : Int)) = !whole s o := by
  have : (lacksOf s o).length = 0 ↔ whole s o = true := by
    rw [List.length_eq_zero_iff, lacksOf, List.filter_eq_nil_iff, whole, List.all_eq_true]
    simp
  cases hw : whole s o with
  | true => have := this.2 hw; rw [this]; rfl
  | false =>
    have h0 : (lacksOf s o).length ≠ 0 := fun h => by rw [this.1 h] at hw; cases hw
    simp only [Bool.not_false, decide_eq_true_eq]; omega
theorem lacks_le (s : DSet) (o : POp) : (lacksOf s o).length ≤ o.preds.length := List.length_filter_le _ _

theorem collect_cc (H : Gh) (LB : Chunks) {Bm bm : Nat} {om : Obj} {m : List (Nm × Value)} (hM : MapO om m) (hN : m.length < 16777216) :
    CC Tryd.prog 74 #[.func (.func 75) #[] #[pt Bm 0]] H ((Bm, .cells [.map (some bm)].toArray 80 (0, 0)) :: (bm, om) :: LB) (fun v H' L' => ∃ (xs : List Nm) (C : Chunks), xs.Perm (m.map (·.1)) ∧ Ow 34 32 C v xs.length (xs.flatMap encId) ∧ H = H' ∧ C ++ ((Bm, .cells [.map (some bm)].toArray 80 (0, 0)) :: (bm, om) :: LB) = L') := by
 refine cc_of Tryd.func74 rfl (Nat.le_of_ble_eq_true rfl) ?_
 simp only [Tryd.ntmps74]
 refine gc_seq (gc_seqr [(.mv, 0)] rfl ?_)
 refine ga rfl rfl rfl rfl ?_
 refine gr_nil (gk_then ?_)
 refine gc_seq (gc_seqr [(.mv, 0), (.nm, 1), (.mv, 2)] rfl ?_)
 refine gm rfl rfl rfl rfl ?_
 refine gr_nx rfl rfl rfl (nx_call Tryd.en95 rfl (append_cc _ _ hM hN)) ?_; rintro v4 H' L' hle ⟨xs, C, hpm, hO, rfl, rfl⟩; refine ⟨trivial, ?_⟩
 refine ga rfl rfl rfl rfl ?_
 refine gr_nil (gk_then ?_)
 refine gc_ret ?_
 refine gk_result (L' := C ++ ((Bm, .cells [.map (some bm)].toArray 80 (0, 0)) :: (bm, om) :: LB)) (.inl rfl) _ (res1 rfl rfl) sbl gle ?_
 exact ⟨xs, C, hpm, hO, rfl, rfl⟩
theorem sorted_cc (H : Gh) (LB : Chunks) {Bm bm : Nat} {om : Obj} {m : List (Nm × Value)} (hM : MapO om m) (hN : m.length < 16777216) :
    CC Tryd.prog 48 #[.func (.func 75) #[] #[pt Bm 0], .func (.func 50) #[] #[]] H ((Bm, .cells [.map (some bm)].toArray 80 (0, 0)) :: (bm, om) :: LB) (fun v H' L' => ∃ (C : Chunks), Ow 34 32 C v m.length ((rising (m.map (·.1))).flatMap encId) ∧ H = H' ∧ C ++ ((Bm, .cells [.map (some bm)].toArray 80 (0, 0)) :: (bm, om) :: LB) = L') := by
 refine cc_of Tryd.func48 rfl (Nat.le_of_ble_eq_true rfl) ?_
 simp only [Tryd.ntmps48]
 refine gc_seq (gc_seqr [(.mv, 0)] rfl ?_)
 refine ga rfl rfl rfl rfl ?_
 refine gr_nil (gk_then ?_)
 refine gc_seq (gc_seqr [(.mv, 0), (.nm, 1), (.mv, 2)] rfl ?_)
 refine gm rfl rfl rfl rfl ?_
 refine gr_nx rfl rfl rfl (nx_call Tryd.en74 rfl (collect_cc _ _ hM hN)) ?_; rintro v7 H' L' hle ⟨xs, C, hpm, hO, rfl, rfl⟩; refine ⟨trivial, ?_⟩
 have hxl : xs.length = m.length := by have := hpm.length_eq; simpa using this
 refine ga rfl rfl rfl rfl ?_
 refine gr_nil (gk_then ?_)
 refine gc_seq (gc_seqr [(.mv, 0), (.mv, 1), (.nm, 2)] rfl ?_)
 refine gm rfl rfl rfl rfl ?_
 refine gm rfl rfl rfl rfl ?_
 refine gr_nx rfl rfl rfl (nx_call Tryd.en70 rfl (sortFunc_cc _ _ hO (by omega))) ?_; rintro v10 H' L' hle ⟨C2, hO2, rfl, rfl, rfl⟩; refine ⟨trivial, ?_⟩
 refine gr_nil (gk_then ?_)
 refine gc_seq (gc_seqr [(.mv, 0), (.mv, 1)] rfl ?_)
 refine gm rfl rfl rfl rfl ?_
 refine ga rfl rfl rfl rfl ?_
 refine gr_nil (gk_then ?_)
 refine gc_ret ?_
 refine gk_result (L' := C2 ++ ((Bm, .cells [.map (some bm)].toArray 80 (0, 0)) :: (bm, om) :: LB)) (.inl rfl) _ (res1 rfl rfl) sbl gle ?_
 exact ⟨C2, by rw [← rising_of_perm hpm, ← hxl]; exact hO2, rfl, rfl⟩
theorem sclone_cc (H : Gh) (L : Chunks) (v : Value) (ps : List Nm) (hp : Ids H L v ps) (hb : ps.length < 16777216) :
    CC Tryd.prog 63 #[v] H L (fun u H' L' => ∃ C, Ow 34 32 C u ps.length (ps.flatMap encId) ∧ H = H' ∧ C ++ L = L') := by
 obtain ⟨A, bv, ov, cv, lv, rfl, hcv, hnv, hv0, hv1, hv2⟩ := hp
 refine cc_of Tryd.func63 rfl (Nat.le_of_ble_eq_true rfl) ?_
 simp only [Tryd.ntmps63]
 refine gc_seq (gc_seqr [(.mv, 0)] rfl ?_)
 refine ga rfl rfl rfl rfl ?_
 refine gr_nil (gk_then ?_)
 refine gc_seq ?_
 refine gc_seq (gc_seqr [(.mv, 0), (.mv, 1)] rfl ?_)
 refine gm rfl rfl rfl rfl ?_
 refine gr_rd rfl rfl rfl (rd_sliceNil Tryd.underlying29 rfl rfl) ?_
 refine gr_nil (gk_then ?_)
 refine gc_cond rfl (fun hc0 => ?_) (fun hc0 => ?_)
 ·have hA : A = none := by simpa using hc0
  have hps := (hv0 hA).1
  subst hps
  refine gc_seq (gc_seqr [(.mv, 0)] rfl ?_)
  refine ga rfl rfl rfl rfl ?_
  refine gr_nil (gk_then ?_)
  refine gc_ret ?_
  refine gk_ret_then ?_
  refine gk_result (L' := [] ++ L) (.inl rfl) _ (res1 rfl rfl) sbl (Gh.le_refl _) ?_
  exact ⟨[], Ow.nil, rfl, rfl⟩
 ·skip
  refine gc_skip ?_
  refine gk_then ?_
  refine gc_seq (gc_seqr [(.nm, 0), (.mv, 1), (.nm, 2), (.mv, 3)] rfl ?_)
  refine gr_nx rfl rfl rfl (nx_buildSlice (vs := []) Tryd.underlying29 Tryd.sizeOf34 Tryd.zeroValue34 rfl rfl rfl rfl (fun v hv => by cases hv) rfl rfl rfl) ?_; rintro _ _ _ _ ⟨b5, rfl, rfl, rfl⟩; refine ⟨trivial, ?_⟩
  refine gm rfl rfl rfl rfl ?_
  refine gr_nx rfl rfl rfl (nx_append (m := ps.length) Tryd.app29_29 rfl rfl (Ow.new (b := b5) (e := 34) (k := 32) (n := 0) (cs := []) rfl) pik (SlT.srcN encId_length encId_ones (SlT.mono ⟨A, bv, ov, cv, lv, rfl, hcv, hnv, hv0, hv1, hv2⟩ (Gh.le_refl _) (fun x hx => List.mem_cons_of_mem _ hx)) rfl) (by omega) (by omega)) ?_; rintro v7 H' L' hle ⟨C, hO, _, rfl, rfl⟩; refine ⟨trivial, ?_⟩
  refine ga rfl rfl rfl rfl ?_
  refine gr_nil (gk_then ?_)
  refine gc_ret ?_
  refine gk_result (L' := C ++ L) (.inl rfl) _ (res1 rfl rfl) sbl (Gh.le_refl _) ?_
  exact ⟨C, by simpa using hO, rfl, rfl⟩
theorem clone_cc (H : Gh) (L : Chunks) (o : POp) (pv : Value) (hp : Ids H L pv o.preds) (hb : o.preds.length < 16777216) :
    CC Tryd.prog 45 #[ag (encOp o pv)] H L (fun v H' L' => ∃ C u, v = ag (encOp o u) ∧ Ow 34 32 C u o.preds.length (o.preds.flatMap encId) ∧ H = H' ∧ C ++ L = L') := by
 refine cc_of Tryd.func45 rfl (Nat.le_of_ble_eq_true rfl) ?_
 simp only [Tryd.ntmps45]
 refine gc_seq (gc_seqr [(.nm, 0), (.nm, 1)] rfl ?_)
 refine gr_nx rfl rfl rfl (nx_box rfl rfl) ?_; rintro _ _ _ _ ⟨b1, rfl, rfl, rfl⟩; refine ⟨trivial, ?_⟩
 refine gr_nx rfl rfl rfl (nx_alloc Tryd.zeroValue38 rfl) ?_; rintro _ _ _ _ ⟨b2, rfl, rfl, rfl⟩; refine ⟨trivial, ?_⟩
 refine gr_nil (gk_then ?_)
 refine gc_seq (gc_seqr [(.mv, 0), (.mv, 1), (.nm, 2), (.mv, 3), (.nm, 4)] rfl ?_)
 refine gr_rd rfl rfl rfl (rd_fieldAddr Tryd.fa38_3 rfl) ?_
 refine gr_rd rfl rfl rfl (rd_load1 Tryd.to29 rfl (Cells.own (l := encOp o pv) (T := 38) (z := (0, 0)) (by simp [baseL])) (encOp_37 _ _)) ?_
 refine gr_nx rfl rfl rfl (nx_call Tryd.en63 rfl (sclone_cc _ _ _ o.preds (hp.mono (Gh.le_refl _) (by intro x hx; simp [hx])) hb)) ?_; rintro v5 H' L' hle ⟨C, hO, rfl, rfl⟩; refine ⟨trivial, ?_⟩
 refine gr_rd rfl rfl rfl (rd_fieldAddr Tryd.fa38_3 rfl) ?_
 refine gr_nx0 rfl rfl (nx_store (vs := [v5]) Tryd.sizeOf29 rfl rfl (cells1 (Ow.one hO)) rfl upd (by simp) (oneCells_cons (Ow.one hO) oneCells_nil)) ?_; rintro _ _ _ _ ⟨rfl, rfl, rfl⟩; refine ⟨trivial, ?_⟩
 rw [encOp_set_preds _ _ _ o.preds, encOp_preds]
 refine gr_nil (gk_then ?_)
 refine gc_seq (gc_seqr [(.mv, 0), (.nm, 1)] rfl ?_)
 refine gr_rd rfl rfl rfl (rd_loadA Tryd.ta38 rfl (Cells.own (l := encOp o v5) (T := 38) (z := (0, 0)) (by simp [baseL])) (Seg.all _) (encOp_length _ _)) ?_
 refine gr_nx0 rfl rfl (nx_store (vs := encOp o v5) Tryd.sizeOf38 rfl rfl rfl (encOp_length _ _) upd (by simp) (encOp_ones _ hO.one)) ?_; rintro _ _ _ _ ⟨rfl, rfl, rfl⟩; refine ⟨trivial, ?_⟩
 rw [wr_all (by simp)]
 refine gr_nil (gk_then ?_)
 refine gc_ret ?_
 refine gk_result (L' := C ++ L) (.inl rfl) _ (resC1 rfl rfl Tryd.ta38 (Cells.own (l := encOp o v5) (T := 38) (z := (0, 0)) (by simp )) (Seg.all _) (encOp_length _ _)) sbl gle ?_
 exact ⟨C, v5, rfl, hO, rfl, rfl⟩
theorem new_cc (H : Gh) (L : Chunks) : CC Tryd.prog 12 #[] H L (fun v H' L' => ∃ b bo bw bt ob ow ot, v = pt b 0 ∧ DRep H DSet.empty ob ow ot ∧ H = H' ∧ ((b, .cells [.map (some bo), .map (some bw), .map (some bt)].toArray 83 (0, 0)) :: (bo, ob) :: (bw, ow) :: (bt, ot) :: L) = L') := by
 refine cc_of Tryd.func12 rfl (Nat.le_of_ble_eq_true rfl) ?_
 simp only [Tryd.ntmps12]
 refine gc_seq (gc_seqr [(.mv, 0)] rfl ?_)
 refine ga rfl rfl rfl rfl ?_
 refine gr_nil (gk_then ?_)
 refine gc_seq (gc_seqr [(.nm, 0), (.nm, 1), (.nm, 2), (.mv, 3), (.nm, 4), (.mv, 5)] rfl ?_)
 refine gr_nx rfl rfl rfl nx_makeMap ?_; rintro _ _ _ _ ⟨b1, rfl, rfl, rfl⟩; refine ⟨trivial, ?_⟩
 refine gr_nx rfl rfl rfl nx_makeMap ?_; rintro _ _ _ _ ⟨b2, rfl, rfl, rfl⟩; refine ⟨trivial, ?_⟩
 refine gr_nx rfl rfl rfl nx_makeMap ?_; rintro _ _ _ _ ⟨b3, rfl, rfl, rfl⟩; refine ⟨trivial, ?_⟩
 refine gr_rd rfl rfl rfl (rd_build Tryd.bt83 (ps := [(0, .map (some b1)), (1, .map (some b2)), (2, .map (some b3))]) (l := [.map (some b1), .map (some b2), .map (some b3)]) rfl rfl) ?_
 refine gr_nx rfl rfl rfl (nx_box rfl rfl) ?_; rintro _ _ _ _ ⟨b5, rfl, rfl, rfl⟩; refine ⟨trivial, ?_⟩
 refine ga rfl rfl rfl rfl ?_
 refine gr_nil (gk_then ?_)
 refine gc_ret ?_
 refine gk_perm (L' := ((b5, .cells [.map (some b1), .map (some b2), .map (some b3)].toArray 83 (0, 0)) :: (b1, .map #[] 0) :: (b2, .map #[] 0) :: (b3, .map #[] 0) :: L)) (by haveI : DecidableEq (Nat × Obj) := fun _ _ => Classical.propDecidable _; rw [List.perm_iff_count]; intro a; simp only [List.count_append, List.count_cons, List.count_nil]; ac_rfl) ?_
 refine gk_result (L' := ((b5, .cells [.map (some b1), .map (some b2), .map (some b3)].toArray 83 (0, 0)) :: (b1, .map #[] 0) :: (b2, .map #[] 0) :: (b3, .map #[] 0) :: L)) (.inl rfl) _ (res1 rfl rfl) (List.Sublist.refl _) (Gh.le_refl _) ?_
 exact ⟨b5, b1, b2, b3, .map #[] 0, .map #[] 0, .map #[] 0, rfl, ⟨⟨[], ⟨[], 0, rfl, rfl, List.Pairwise.nil, (fun p hp => by cases hp), List.nodup_nil⟩, rfl, (fun t ht => by cases ht)⟩, ⟨[], ⟨[], 0, rfl, rfl, List.Pairwise.nil, (fun p hp => by cases hp), List.nodup_nil⟩, rfl, (fun t ht => by cases ht)⟩, ⟨[], ⟨[], 0, rfl, rfl, List.Pairwise.nil, (fun p hp => by cases hp), List.nodup_nil⟩, fun n => rfl⟩, List.nodup_nil, (fun p hp => by cases hp)⟩, rfl, rfl⟩
theorem names_cc (H : Gh) (L : Chunks) {b bo bw bt : Nat} {s : DSet} {ob ow ot : Obj} (hR : DRep H s ob ow ot) (hz : s.ops.length < 16777216) :
    CC Tryd.prog 14 #[pt b 0] H ((b, .cells [.map (some bo), .map (some bw), .map (some bt)].toArray 83 (0, 0)) :: (bo, ob) :: (bw, ow) :: (bt, ot) :: L) (fun u H' L' => ∃ C, Ow 34 32 C u (names s).length ((names s).flatMap encId) ∧ H = H' ∧ C ++ ((b, .cells [.map (some bo), .map (some bw), .map (some bt)].toArray 83 (0, 0)) :: (bo, ob) :: (bw, ow) :: (bt, ot) :: L) = L') := by
 obtain ⟨m, hM, hmn, _⟩ := hR.ops.look
 have hml : m.length = s.ops.length := by have := congrArg List.length hmn; simpa using this
 have hwl : (names s).length = m.length := by rw [names, rising_length, List.length_map, hml]
 refine cc_of Tryd.func14 rfl (Nat.le_of_ble_eq_true rfl) ?_
 simp only [Tryd.ntmps14]
 refine gc_seq (gc_seqr [(.mv, 0)] rfl ?_)
 refine ga rfl rfl rfl rfl ?_
 refine gr_nil (gk_then ?_)
 refine gc_seq ?_
 refine gc_seq (gc_seqr [(.mv, 0), (.mv, 1)] rfl ?_)
 refine gm rfl rfl rfl rfl ?_
 refine gr_rd rfl rfl rfl (rd_ptrNil Tryd.underlying27 rfl rfl) ?_
 refine gr_nil (gk_then ?_)
 refine gc_no rfl ?_
 refine gc_skip ?_
 refine gk_then ?_
 refine gc_seq (gc_seqr [(.mv, 0), (.mv, 1), (.mv, 2), (.mv, 3), (.nm, 4), (.nm, 5), (.mv, 6)] rfl ?_)
 refine gm rfl rfl rfl rfl ?_
 refine gr_rd rfl rfl rfl (rd_nilCheck rfl) ?_
 refine gr_rd rfl rfl rfl (rd_fieldAddr Tryd.fa83_0 rfl) ?_
 refine gr_rd rfl rfl rfl (rd_load1 Tryd.to80 rfl (Cells.own (l := [.map (some bo), .map (some bw), .map (some bt)]) (T := 83) (z := (0, 0)) (by simp [baseL])) rfl) ?_
 refine gr_nx rfl rfl rfl (nx_call Tryd.en49 rfl (keys_cc _ _ (.map (some bo)) rfl)) ?_; rintro v9 H' L' hle ⟨Bm, rfl, rfl, rfl⟩; refine ⟨trivial, ?_⟩
 refine gr_perm (L' := ((Bm, .cells [.map (some bo)].toArray 80 (0, 0)) :: (bo, ob) :: ((b, .cells [.map (some bo), .map (some bw), .map (some bt)].toArray 83 (0, 0)) :: (bw, ow) :: (bt, ot) :: L))) (by haveI : DecidableEq (Nat × Obj) := fun _ _ => Classical.propDecidable _; rw [List.perm_iff_count]; intro a; simp only [List.count_append, List.count_cons, List.count_nil]; ac_rfl) ?_
 refine gr_nx rfl rfl rfl (nx_call Tryd.en48 rfl (sorted_cc _ _ hM (by omega))) ?_; rintro v10 H' L' hle ⟨C, hO, rfl, rfl⟩; refine ⟨trivial, ?_⟩
 refine ga rfl rfl rfl rfl ?_
 refine gr_nil (gk_then ?_)
 refine gc_ret ?_
 refine gk_perm (L' := [(Bm, .cells [.map (some bo)].toArray 80 (0, 0))] ++ (C ++ ((b, .cells [.map (some bo), .map (some bw), .map (some bt)].toArray 83 (0, 0)) :: (bo, ob) :: (bw, ow) :: (bt, ot) :: L))) (by haveI : DecidableEq (Nat × Obj) := fun _ _ => Classical.propDecidable _; rw [List.perm_iff_count]; intro a; simp only [List.count_append, List.count_cons, List.count_nil]; ac_rfl) ?_
 refine gk_result (L' := C ++ ((b, .cells [.map (some bo), .map (some bw), .map (some bt)].toArray 83 (0, 0)) :: (bo, ob) :: (bw, ow) :: (bt, ot) :: L)) (.inl rfl) _ (res1 rfl rfl) (List.sublist_append_right _ _) (Gh.le_refl _) ?_
 exact ⟨C, by rw [hwl, names, ← hmn]; exact hO, rfl, rfl⟩
theorem waits_cc (H : Gh) (L : Chunks) {b bo bw bt : Nat} {s : DSet} {ob ow ot : Obj} (hR : DRep H s ob ow ot) (hz : s.wait.length < 16777216) :
    CC Tryd.prog 18 #[pt b 0] H ((b, .cells [.map (some bo), .map (some bw), .map (some bt)].toArray 83 (0, 0)) :: (bo, ob) :: (bw, ow) :: (bt, ot) :: L) (fun u H' L' => ∃ C, Ow 34 32 C u (waits s).length ((waits s).flatMap encId) ∧ H = H' ∧ C ++ ((b, .cells [.map (some bo), .map (some bw), .map (some bt)].toArray 83 (0, 0)) :: (bo, ob) :: (bw, ow) :: (bt, ot) :: L) = L') := by
 obtain ⟨m, hM, hmn, _⟩ := hR.wait.look
 have hml : m.length = s.wait.length := by have := congrArg List.length hmn; simpa using this
 have hwl : (waits s).length = m.length := by rw [waits, rising_length, List.length_map, hml]
 refine cc_of Tryd.func18 rfl (Nat.le_of_ble_eq_true rfl) ?_
 simp only [Tryd.ntmps18]
 refine gc_seq (gc_seqr [(.mv, 0)] rfl ?_)
 refine ga rfl rfl rfl rfl ?_
 refine gr_nil (gk_then ?_)
 refine gc_seq ?_
 refine gc_seq (gc_seqr [(.mv, 0), (.mv, 1)] rfl ?_)
 refine gm rfl rfl rfl rfl ?_
 refine gr_rd rfl rfl rfl (rd_ptrNil Tryd.underlying27 rfl rfl) ?_
 refine gr_nil (gk_then ?_)
 refine gc_no rfl ?_
 refine gc_skip ?_
 refine gk_then ?_
 refine gc_seq (gc_seqr [(.mv, 0), (.mv, 1), (.mv, 2), (.mv, 3), (.nm, 4), (.nm, 5), (.mv, 6)] rfl ?_)
 refine gm rfl rfl rfl rfl ?_
 refine gr_rd rfl rfl rfl (rd_nilCheck rfl) ?_
 refine gr_rd rfl rfl rfl (rd_fieldAddr Tryd.fa83_1 rfl) ?_
 refine gr_rd rfl rfl rfl (rd_load1 Tryd.to80 rfl (Cells.own (l := [.map (some bo), .map (some bw), .map (some bt)]) (T := 83) (z := (0, 0)) (by simp [baseL])) rfl) ?_
 refine gr_nx rfl rfl rfl (nx_call Tryd.en49 rfl (keys_cc _ _ (.map (some bw)) rfl)) ?_; rintro v9 H' L' hle ⟨Bm, rfl, rfl, rfl⟩; refine ⟨trivial, ?_⟩
 refine gr_perm (L' := ((Bm, .cells [.map (some bw)].toArray 80 (0, 0)) :: (bw, ow) :: ((b, .cells [.map (some bo), .map (some bw), .map (some bt)].toArray 83 (0, 0)) :: (bo, ob) :: (bt, ot) :: L))) (by haveI : DecidableEq (Nat × Obj) := fun _ _ => Classical.propDecidable _; rw [List.perm_iff_count]; intro a; simp only [List.count_append, List.count_cons, List.count_nil]; ac_rfl) ?_
 refine gr_nx rfl rfl rfl (nx_call Tryd.en48 rfl (sorted_cc _ _ hM (by omega))) ?_; rintro v10 H' L' hle ⟨C, hO, rfl, rfl⟩; refine ⟨trivial, ?_⟩
 refine ga rfl rfl rfl rfl ?_
 refine gr_nil (gk_then ?_)
 refine gc_ret ?_
 refine gk_perm (L' := [(Bm, .cells [.map (some bw)].toArray 80 (0, 0))] ++ (C ++ ((b, .cells [.map (some bo), .map (some bw), .map (some bt)].toArray 83 (0, 0)) :: (bo, ob) :: (bw, ow) :: (bt, ot) :: L))) (by haveI : DecidableEq (Nat × Obj) := fun _ _ => Classical.propDecidable _; rw [List.perm_iff_count]; intro a; simp only [List.count_append, List.count_cons, List.count_nil]; ac_rfl) ?_
 refine gk_result (L' := C ++ ((b, .cells [.map (some bo), .map (some bw), .map (some bt)].toArray 83 (0, 0)) :: (bo, ob) :: (bw, ow) :: (bt, ot) :: L)) (.inl rfl) _ (res1 rfl rfl) (List.sublist_append_right _ _) (Gh.le_refl _) ?_
 exact ⟨C, by rw [hwl, waits, ← hmn]; exact hO, rfl, rfl⟩
end Go.Proofs.YtfhldfjknagidaaDoor

/-
  Walks: the program's set of operations: what lacks, how deep, what is put.
-/
set_option linter.unusedSimpArgs false
set_option linter.unusedVariables false
set_option linter.unnecessarySimpa false
set_option linter.all false
namespace Go.Proofs.YtfhldfjknagidaaDoor
open Go.VK Go.Tr
set_option maxRecDepth 20000
attribute [local irreducible] Go.Tr.sha
theorem cnt_le {l : List (Nm × POp)} (h : ∀ p ∈ l, p.2.preds.length ≤ 32) (n : Nm) : cnt l n ≤ 32 * l.length := by
  induction l with
  | nil => simp [cnt]
  | cons p r ih =>
    have h1 := ih fun q hq => h q (List.mem_cons_of_mem _ hq)
    have h2 := h p List.mem_cons_self
    have h3 := List.countP_le_length (p := (· == n)) (l := p.2.preds)
    simp only [cnt, List.map_cons, List.sum_cons, List.length_cons] at h1 ⊢
    omega
theorem count_take {l : List Nm} {k : Nat} (n : Nm) (h : k < l.length) : (l.take (k + 1)).countP (· == n) = (l.take k).countP (· == n) + if l.getD k Nm.zero = n then 1 else 0 := by
  rw [List.take_add_one, getD_at h]
  simp [List.countP_append, List.countP_cons]
structure PS where
  k : Nat
  ot : Obj

set_option maxHeartbeats 1000000 in
theorem lacks_cc (H : Gh) (L : Chunks) {b bo bw bt : Nat} {s : DSet} {ob ow ot : Obj} (hV : DView H L b bo bw bt s ob ow ot) (o : POp) (pv : Value) (hp : Ids H L pv o.preds) (hb : o.preds.length < 16777216) :
    CC Tryd.prog 44 #[pt b 0, ag (encOp o pv)] H L (fun v H' L' => ∃ C, Ow 34 32 C v (lacksOf s o).length ((lacksOf s o).flatMap encId) ∧ H = H' ∧ C ++ L = L') := by
 obtain ⟨A, bv, of, cv, lv, rfl, hcv, hnv, hv0, hv1, hv2⟩ := hp
 obtain ⟨m, hM, hmn, hlk⟩ := look_op hV.ops
 have hmo := hV.mo
 refine cc_of Tryd.func44 rfl (Nat.le_of_ble_eq_true rfl) ?_
 simp only [Tryd.ntmps44]
 refine gc_seq (gc_seqr [(.nm, 0), (.mv, 1)] rfl ?_)
 refine gr_nx rfl rfl rfl (nx_box rfl rfl) ?_; rintro _ _ _ _ ⟨b3, rfl, rfl, rfl⟩; refine ⟨trivial, ?_⟩
 refine ga rfl rfl rfl rfl ?_
 refine gr_nil (gk_then ?_)
 refine gc_seq (gc_seqr [(.mv, 0)] rfl ?_)
 refine ga rfl rfl rfl rfl ?_
 refine gr_nil (gk_then ?_)
 refine gc_seq ?_
 refine gc_seq (gc_seqr [(.mv, 0), (.mv, 1), (.mv, 2), (.mv, 3)] rfl ?_)
 refine gr_rd rfl rfl rfl (rd_fieldAddr Tryd.fa38_3 rfl) ?_
 refine gr_rd rfl rfl rfl (rd_load1 Tryd.to29 rfl cel at1) ?_
 refine gr_rd rfl rfl rfl (rd_lenS Tryd.underlying29 rfl) ?_
 refine gm rfl rfl rfl rfl ?_
 refine gr_nil (gk_then ?_)
 refine gc_block ?_
 refine gc_loop (fun t : Nat × Value × Chunks => [(0, pt b 0), (5, t.2.1), (11, (.slice A o.preds.length cv)), (12, i64 o.preds.length), (13, i64 t.1)]) (fun t H1 L1 => H = H1 ∧ L1 = t.2.2 ++ ((b3, .cells (encOp o (.slice A o.preds.length cv)).toArray 38 (0, 0)) :: L) ∧ t.1 ≤ o.preds.length ∧ Ow 34 32 t.2.2 t.2.1 ((o.preds.take t.1).filter fun n => !has s.ops n).length (((o.preds.take t.1).filter fun n => !has s.ops n).flatMap encId)) (fun t => o.preds.length - t.1) ((0, nilS, [])) ?_ sbs ?_
 ·exact ⟨rfl, rfl, Nat.zero_le _, Ow.nil⟩
 ·rintro ⟨k, vo, C⟩ H1 L1 ⟨rfl, rfl, hk, hO⟩
  simp only at hk hO
  have hfl : ((o.preds.take k).filter fun n => !has s.ops n).length ≤ o.preds.length := Nat.le_trans (List.length_filter_le _ _) (by simp; omega)
  show GC _ _ _ _ [(0, pt b 0), (5, vo), (11, (.slice A o.preds.length cv)), (12, i64 o.preds.length), (13, i64 k)] H (C ++ ((b3, .cells (encOp o (.slice A o.preds.length cv)).toArray 38 (0, 0)) :: L))
  refine gc_seq (gc_seqr [(.mv, 0)] rfl ?_)
  refine gr_rd rfl rfl rfl (rd_lss rfl rfl) ?_
  refine gr_nil (gk_then ?_)
  refine gc_seq ?_
  refine gc_cond rfl (fun hc0 => ?_) (fun hc0 => ?_)
  ·have hlt : k < o.preds.length := by simpa using hc0
   obtain ⟨hAe, hca, hsa⟩ := ids_at2 (i := (k : Int)) hv1 hv2 hlt rfl
   refine gc_skip ?_
   refine gk_then ?_
   refine gc_seq ?_
   refine gc_block ?_
   refine gc_seq (gc_seqr [(.mv, 0), (.mv, 1), (.nm, 2), (.nm, 3)] rfl ?_)
   refine gr_rd rfl rfl rfl (rd_indexS Tryd.underlying29 Tryd.sizeOf34 rfl rfl hAe (by omega) (by omega)) ?_
   refine gr_rd rfl rfl rfl (rd_loadA Tryd.ta34 rfl (hca.mono (Gh.le_refl _) (by intro x hx; simp [baseL, hx])) hsa (encId_length _)) ?_
   refine gr_nx rfl rfl rfl (nx_alloc Tryd.zeroValue34 rfl) ?_; rintro _ _ _ _ ⟨b7, rfl, rfl, rfl⟩; refine ⟨trivial, ?_⟩
   refine gr_nx0 rfl rfl (nx_store (vs := encId (o.preds.getD k Nm.zero)) Tryd.sizeOf34 rfl rfl rfl (encId_length _) upd (by simp) (encId_ones _)) ?_; rintro _ _ _ _ ⟨rfl, rfl, rfl⟩; refine ⟨trivial, ?_⟩
   rw [wr_all (by simp)]
   refine gr_nil (gk_then ?_)
   refine gc_seq ?_
   refine gc_draw Tryd.mixed [(.mv, 0), (.mv, 1), (.mv, 2), (.mv, 3), (.mv, 4), (.mv, 5), (.mv, 6), (.mv, 7), (.mv, 8), (.nm, 9), (.nm, 10), (.mv, 11)] (by decide +kernel) _ (List.Sublist.refl _) ?_
   refine gm rfl rfl rfl rfl ?_
   refine gr_rd rfl rfl rfl (rd_nilCheck rfl) ?_
   refine gr_rd rfl rfl rfl (rd_fieldAddr Tryd.fa83_0 rfl) ?_
   refine gr_rd rfl rfl rfl (rd_load1 Tryd.to80 rfl (hV.cells.mono (Gh.le_refl _) (by intro x hx; simp [baseL, hx])) rfl) ?_
   refine gr_rd rfl rfl rfl (rd_loadA Tryd.ta34 rfl (Cells.own (l := encId (o.preds.getD k Nm.zero)) (T := 34) (z := (0, 0)) (by simp [baseL])) (Seg.all _) (encId_length _)) ?_
   refine gr_rd rfl rfl rfl (rd_lookupOk Tryd.tm Tryd.zop rfl rfl (by simp [baseL, hmo]) hM) ?_
   obtain ⟨q, pq, hq1, hq2, hq3, hq4⟩ := hlk (o.preds.getD k Nm.zero)
   rw [hq1, hq2]
   refine gm rfl rfl rfl rfl ?_
   refine gr_rd rfl rfl rfl (rd_extract rfl rfl) ?_
   refine gr_rd rfl rfl rfl (rd_extract rfl rfl) ?_
   refine gr_nx rfl rfl rfl (nx_alloc Tryd.zeroValue38 rfl) ?_; rintro _ _ _ _ ⟨b8, rfl, rfl, rfl⟩; refine ⟨kp, ?_⟩
   refine gr_nx0 rfl rfl (nx_store (vs := encOp q pq) Tryd.sizeOf38 rfl rfl rfl (encOp_length _ _) upd (by simp) (encOp_ones _ hq3.one)) ?_; rintro _ _ _ _ ⟨rfl, rfl, rfl⟩; refine ⟨kp, ?_⟩
   rw [wr_all (by simp)]
   refine ga rfl rfl rfl rfl ?_
   refine gr_nil (gk_then ?_)
   refine gc_seq (gc_seqr [(.mv, 0), (.mv, 1)] rfl ?_)
   refine gm rfl rfl rfl rfl ?_
   refine gr_rd rfl rfl rfl (rd_not rfl) ?_
   refine gr_nil (gk_then ?_)
   refine gc_cond rfl (fun hcR6 => ?_) (fun hcR6 => ?_)
   ·skip
    refine gc_seqr [(.mv, 0), (.mv, 1), (.nm, 2), (.nm, 3), (.mv, 4)] rfl ?_
    refine gm rfl rfl rfl rfl ?_
    refine gr_rd rfl rfl rfl (rd_loadA Tryd.ta34 rfl (Cells.own (l := encId (o.preds.getD k Nm.zero)) (T := 34) (z := (0, 0)) (by simp [baseL])) (Seg.all _) (encId_length _)) ?_
    refine gr_nx rfl rfl rfl (nx_sliceA1 Tryd.underlying29 Tryd.sizeOf34 Tryd.zeroValue34 rfl rfl rfl lnk rfl) ?_; rintro _ _ _ _ ⟨b30, rfl, rfl, rfl⟩; refine ⟨trivial, ?_⟩
    refine gr_nx rfl rfl rfl (nx_append (m := 1) Tryd.app29_29 rfl rfl hO pik (src_slice (b := b30) (o := 0) (l := encId (o.preds.getD k Nm.zero)) (m := 1) (by simp) (encId_ones _) (fun h => by cases h) (fun _ _ => ⟨rfl, Cells.own List.mem_cons_self, Seg.all _⟩)) (by omega) (by omega)) ?_; rintro v31 H' L' hle ⟨C2, hO2, _, rfl, rfl⟩; refine ⟨trivial, ?_⟩
    refine ga rfl rfl rfl rfl ?_
    refine gr_nil ?_
    refine gk_inBlock ?_
    refine gk_then ?_
    refine gc_seqr [(.mv, 0), (.mv, 1)] rfl ?_
    (first | refine gr_rd rfl rfl rfl (rd_add rfl rfl (IntWalk.i64_in _ (by omega))) ?_ | refine gr_rd rfl rfl rfl (rd_add rfl rfl rfl) ?_)
    refine gm rfl rfl rfl rfl ?_
    refine gr_nil ?_
    first
      | (refine gk_drop (L' := C2 ++ ((b3, .cells (encOp o (.slice A o.preds.length cv)).toArray 38 (0, 0)) :: L)) (by repeat (first | exact List.Sublist.refl _ | apply List.Sublist.append (List.Sublist.refl _) | apply List.Sublist.cons)) ?_
         refine gk_round (k + 1, _, C2) ?_ ?_ sbs
         · show o.preds.length - (k + 1) < o.preds.length - k
           omega
         · refine ⟨rfl, rfl, by simp only; omega, ?_⟩
           simp only
           rw [filter_take _ hlt, if_pos hcR6]
           simpa using hO2)
      | (refine gk_drop (L' := C ++ ((b3, .cells (encOp o (.slice A o.preds.length cv)).toArray 38 (0, 0)) :: L)) (by repeat (first | exact List.Sublist.refl _ | apply List.Sublist.append (List.Sublist.refl _) | apply List.Sublist.cons)) ?_
         refine gk_round (k + 1, _, C) ?_ ?_ sbs
         · show o.preds.length - (k + 1) < o.preds.length - k
           omega
         · refine ⟨rfl, rfl, by simp only; omega, ?_⟩
           simp only
           rw [filter_take _ hlt, if_neg (by rw [hcR6]; decide), List.append_nil]
           exact hO)
   ·skip
    refine gc_skip ?_
    refine gk_inBlock ?_
    refine gk_then ?_
    refine gc_seqr [(.mv, 0), (.mv, 1)] rfl ?_
    (first | refine gr_rd rfl rfl rfl (rd_add rfl rfl (IntWalk.i64_in _ (by omega))) ?_ | refine gr_rd rfl rfl rfl (rd_add rfl rfl rfl) ?_)
    refine gm rfl rfl rfl rfl ?_
    refine gr_nil ?_
    first
      | (refine gk_drop (L' := C2 ++ ((b3, .cells (encOp o (.slice A o.preds.length cv)).toArray 38 (0, 0)) :: L)) (by repeat (first | exact List.Sublist.refl _ | apply List.Sublist.append (List.Sublist.refl _) | apply List.Sublist.cons)) ?_
         refine gk_round (k + 1, _, C2) ?_ ?_ sbs
         · show o.preds.length - (k + 1) < o.preds.length - k
           omega
         · refine ⟨rfl, rfl, by simp only; omega, ?_⟩
           simp only
           rw [filter_take _ hlt, if_pos hcR6]
           simpa using hO2)
      | (refine gk_drop (L' := C ++ ((b3, .cells (encOp o (.slice A o.preds.length cv)).toArray 38 (0, 0)) :: L)) (by repeat (first | exact List.Sublist.refl _ | apply List.Sublist.append (List.Sublist.refl _) | apply List.Sublist.cons)) ?_
         refine gk_round (k + 1, _, C) ?_ ?_ sbs
         · show o.preds.length - (k + 1) < o.preds.length - k
           omega
         · refine ⟨rfl, rfl, by simp only; omega, ?_⟩
           simp only
           rw [filter_take _ hlt, if_neg (by rw [hcR6]; decide), List.append_nil]
           exact hO)
  ·have hge : k = o.preds.length := by simp at hc0; omega
   subst hge
   rw [List.take_length] at hO
   refine gc_exit ?_
   refine gk_exit_then ?_
   refine gk_exit_then ?_
   refine gk_here ?_
   refine gk_then ?_
   refine gc_seq (gc_seqr [(.mv, 0), (.mv, 1)] rfl ?_)
   refine gm rfl rfl rfl rfl ?_
   refine ga rfl rfl rfl rfl ?_
   refine gr_nil (gk_then ?_)
   refine gc_ret ?_
   refine gk_result (L' := C ++ L) (.inl rfl) _ (res1 rfl rfl) sbl gle ?_
   exact ⟨C, hO, rfl, rfl⟩
set_option maxHeartbeats 1000000 in
theorem depth_cc (H : Gh) (L : Chunks) {b bo bw bt : Nat} {s : DSet} {ob ow ot : Obj} (hV : DView H L b bo bw bt s ob ow ot) (o : POp) (pv : Value) (hp : Ids H L pv o.preds) :
    CC Tryd.prog 60 #[pt b 0, ag (encOp o pv)] H L (fun v H' L' => v = i64 (depthOf s o.preds) ∧ H = H' ∧ L = L') := by
 obtain ⟨A, bv, of, cv, lv, rfl, hcv, hnv, hv0, hv1, hv2⟩ := hp
 obtain ⟨m, hM, hmn, hlk⟩ := look_op hV.ops
 have hmo := hV.mo
 refine cc_of Tryd.func60 rfl (Nat.le_of_ble_eq_true rfl) ?_
 simp only [Tryd.ntmps60]
 refine gc_seq (gc_seqr [(.nm, 0), (.mv, 1)] rfl ?_)
 refine gr_nx rfl rfl rfl (nx_box rfl rfl) ?_; rintro _ _ _ _ ⟨b3, rfl, rfl, rfl⟩; refine ⟨trivial, ?_⟩
 refine ga rfl rfl rfl rfl ?_
 refine gr_nil (gk_then ?_)
 refine gc_seq (gc_seqr [(.mv, 0)] rfl ?_)
 refine ga rfl rfl rfl rfl ?_
 refine gr_nil (gk_then ?_)
 refine gc_seq ?_
 refine gc_seq (gc_seqr [(.mv, 0), (.mv, 1), (.mv, 2), (.mv, 3)] rfl ?_)
 refine gr_rd rfl rfl rfl (rd_fieldAddr Tryd.fa38_3 rfl) ?_
 refine gr_rd rfl rfl rfl (rd_load1 Tryd.to29 rfl cel at1) ?_
 refine gr_rd rfl rfl rfl (rd_lenS Tryd.underlying29 rfl) ?_
 refine gm rfl rfl rfl rfl ?_
 refine gr_nil (gk_then ?_)
 refine gc_block ?_
 refine gc_loop (fun k : Nat => [(0, pt b 0), (5, i64 (deepest s (o.preds.take k))), (9, (.slice A o.preds.length cv)), (10, i64 o.preds.length), (11, i64 k)]) (fun k H1 L1 => H = H1 ∧ (b3, .cells (encOp o (.slice A o.preds.length cv)).toArray 38 (0, 0)) :: L = L1 ∧ k ≤ o.preds.length) (fun k => o.preds.length - k) (0) ?_ sbs ?_
 ·exact ⟨rfl, rfl, Nat.zero_le _⟩
 ·rintro k H1 L1 ⟨rfl, rfl, hk⟩
  refine gc_seq (gc_seqr [(.mv, 0)] rfl ?_)
  refine gr_rd rfl rfl rfl (rd_lss rfl rfl) ?_
  refine gr_nil (gk_then ?_)
  refine gc_seq ?_
  refine gc_cond rfl (fun hc0 => ?_) (fun hc0 => ?_)
  ·have hlt : k < o.preds.length := by simpa using hc0
   obtain ⟨hAe, hca, hsa⟩ := ids_at2 (i := (k : Int)) hv1 hv2 hlt rfl
   refine gc_skip ?_
   refine gk_then ?_
   refine gc_seq ?_
   refine gc_block ?_
   refine gc_seq (gc_seqr [(.mv, 0), (.mv, 1), (.nm, 2), (.nm, 3)] rfl ?_)
   refine gr_rd rfl rfl rfl (rd_indexS Tryd.underlying29 Tryd.sizeOf34 rfl rfl hAe (by omega) (by omega)) ?_
   refine gr_rd rfl rfl rfl (rd_loadA Tryd.ta34 rfl (hca.mono (Gh.le_refl _) (by intro x hx; simp [baseL, hx])) hsa (encId_length _)) ?_
   refine gr_nx rfl rfl rfl (nx_alloc Tryd.zeroValue34 rfl) ?_; rintro _ _ _ _ ⟨b7, rfl, rfl, rfl⟩; refine ⟨trivial, ?_⟩
   refine gr_nx0 rfl rfl (nx_store (vs := encId (o.preds.getD k Nm.zero)) Tryd.sizeOf34 rfl rfl rfl (encId_length _) upd (by simp) (encId_ones _)) ?_; rintro _ _ _ _ ⟨rfl, rfl, rfl⟩; refine ⟨trivial, ?_⟩
   rw [wr_all (by simp)]
   refine gr_nil (gk_then ?_)
   refine gc_draw Tryd.mixed [(.mv, 0), (.mv, 1), (.mv, 2), (.mv, 3), (.mv, 4), (.mv, 5), (.mv, 6), (.mv, 7), (.mv, 8), (.mv, 9)] (by decide +kernel) _ (List.Sublist.refl _) ?_
   refine gm rfl rfl rfl rfl ?_
   refine gm rfl rfl rfl rfl ?_
   refine gr_rd rfl rfl rfl (rd_nilCheck rfl) ?_
   refine gr_rd rfl rfl rfl (rd_fieldAddr Tryd.fa83_0 rfl) ?_
   refine gr_rd rfl rfl rfl (rd_load1 Tryd.to80 rfl (hV.cells.mono (Gh.le_refl _) (by intro x hx; simp [baseL, hx])) rfl) ?_
   refine gr_rd rfl rfl rfl (rd_loadA Tryd.ta34 rfl (Cells.own (l := encId (o.preds.getD k Nm.zero)) (T := 34) (z := (0, 0)) (by simp [baseL])) (Seg.all _) (encId_length _)) ?_
   refine gr_rd rfl rfl rfl (rd_lookup Tryd.tm Tryd.zop rfl rfl (by simp [baseL, hmo]) hM) ?_
   obtain ⟨q, pq, hq1, hq2, hq3, hq4⟩ := hlk (o.preds.getD k Nm.zero)
   rw [hq1]
   refine gr_rd rfl rfl rfl (rd_field1 Tryd.underlying38 rfl Tryd.to3 rfl (encOp_36 q pq)) ?_
   refine gr_rd rfl rfl rfl (rd_max2 rfl rfl (imax_eq _ _)) ?_
   refine ga rfl rfl rfl rfl ?_
   refine gr_nil ?_
   refine gk_inBlock ?_
   refine gk_then ?_
   refine gc_seqr [(.mv, 0), (.mv, 1)] rfl ?_
   (first | refine gr_rd rfl rfl rfl (rd_add rfl rfl (IntWalk.i64_in _ (by omega))) ?_ | refine gr_rd rfl rfl rfl (rd_add rfl rfl rfl) ?_)
   refine gm rfl rfl rfl rfl ?_
   refine gr_nil ?_
   refine gk_drop (L' := (b3, .cells (encOp o (.slice A o.preds.length cv)).toArray 38 (0, 0)) :: L) sbl ?_
   refine gk_round (k + 1) (by omega) ⟨rfl, rfl, by omega⟩ ?_
   refine Subs.cons rfl (Subs.cons ?_ sbs)
   simp only [find, cond]
   rw [deepest_step2 (getD_at hlt) hq4]
  ·have hge : k = o.preds.length := by simp at hc0; omega
   subst hge
   rw [List.take_length]
   refine gc_exit ?_
   refine gk_exit_then ?_
   refine gk_exit_then ?_
   refine gk_here ?_
   refine gk_then ?_
   refine gc_seq (gc_seqr [(.mv, 0), (.mv, 1), (.mv, 2)] rfl ?_)
   refine gm rfl rfl rfl rfl ?_
   refine gr_rd rfl rfl rfl (rd_add rfl rfl (IntKind.wrap_i64 _)) ?_
   refine ga rfl rfl rfl rfl ?_
   refine gr_nil (gk_then ?_)
   refine gc_ret ?_
   refine gk_result (L' := L) (.inl rfl) _ (res1 rfl rfl) sbl gle ?_
   exact ⟨rfl, rfl, rfl⟩
set_option maxHeartbeats 2000000 in
theorem put_cc (H : Gh) (L : Chunks) {b bo bw bt : Nat} {s : DSet} {ob ow ot : Obj} (hR : DRep H s ob ow ot) (hz : s.ops.length < 16777216) (n : Nm) (o : POp) (pv : Value) (hp : Ids H [] pv o.preds) (hn : has s.ops n = false) (hsm : o.preds.length ≤ 32) :
    CC Tryd.prog 46 #[pt b 0, ag (encId n), ag (encOp o pv)] H ((b, .cells [.map (some bo), .map (some bw), .map (some bt)].toArray 83 (0, 0)) :: (bo, ob) :: (bw, ow) :: (bt, ot) :: L) (fun v H' L' => ∃ ob' ot', v = .bool (decide (o.depth = depthOf s o.preds)) ∧ (o.depth = depthOf s o.preds → EntO H ob' (s.ops ++ [(n, o)]) ∧ CntO ot' (cnt (s.ops ++ [(n, o)]))) ∧ (¬ o.depth = depthOf s o.preds → ob' = ob ∧ ot' = ot) ∧ H = H' ∧ ((b, .cells [.map (some bo), .map (some bw), .map (some bt)].toArray 83 (0, 0)) :: (bo, ob') :: (bw, ow) :: (bt, ot') :: L) = L') := by
 have hp0 := hp
 obtain ⟨A, bv, of, cv, lv, rfl, hcv, hnv, hv0, hv1, hv2⟩ := hp
 obtain ⟨mo, hMo, hst⟩ := hR.ops.store hn hp0
 have hcb := cnt_le (l := s.ops) (fun p hp => hR.small p (List.mem_append_left _ hp))
 refine cc_of Tryd.func46 rfl (Nat.le_of_ble_eq_true rfl) ?_
 simp only [Tryd.ntmps46]
 refine gc_seq (gc_seqr [(.nm, 0), (.nm, 1), (.mv, 2)] rfl ?_)
 refine gr_nx rfl rfl rfl (nx_box rfl rfl) ?_; rintro _ _ _ _ ⟨b4, rfl, rfl, rfl⟩; refine ⟨trivial, ?_⟩
 refine gr_nx rfl rfl rfl (nx_box rfl rfl) ?_; rintro _ _ _ _ ⟨b5, rfl, rfl, rfl⟩; refine ⟨trivial, ?_⟩
 refine ga rfl rfl rfl rfl ?_
 refine gr_nil (gk_then ?_)
 refine gc_seq ?_
 refine gc_seq ?_
 refine gc_draw Tryd.mixed [(.mv, 0), (.mv, 1), (.mv, 2), (.mv, 3), (.nm, 4), (.mv, 5)] (by decide +kernel) _ (List.Sublist.refl _) ?_
 refine gr_rd rfl rfl rfl (rd_fieldAddr Tryd.fa38_2 rfl) ?_
 refine gr_rd rfl rfl rfl (rd_load1 Tryd.to3 rfl (Cells.own (l := encOp o (.slice A o.preds.length cv)) (T := 38) (z := (0, 0)) (by simp [baseL])) (encOp_36 _ _)) ?_
 refine gm rfl rfl rfl rfl ?_
 refine gr_rd rfl rfl rfl (rd_loadA Tryd.ta38 rfl (Cells.own (l := encOp o (.slice A o.preds.length cv)) (T := 38) (z := (0, 0)) (by simp [baseL])) (Seg.all _) (encOp_length _ _)) ?_
 refine gr_nx rfl rfl rfl (nx_call Tryd.en60 rfl (depth_cc _ _ (bo := bo) (bw := bw) (bt := bt) (ob := ob) (ow := ow) (ot := ot) ⟨(Cells.own (l := [.map (some bo), .map (some bw), .map (some bt)]) (T := 83) (z := (0, 0)) (by simp )), by simp, by simp, by simp, hR.ops, hR.wait, hR.cnt⟩ o _ hp0.any)) ?_; rintro v13 H' L' hle ⟨rfl, rfl, rfl⟩; refine ⟨kp, ?_⟩
 refine gr_rd rfl rfl rfl (rd_neq rfl rfl) ?_
 refine gr_nil (gk_then ?_)
 refine gc_cond rfl (fun hc0 => ?_) (fun hc0 => ?_)
 ·have hd : ¬ o.depth = depthOf s o.preds := iN_t.1 hc0
  refine gc_seq (gc_seqr [(.mv, 0)] rfl ?_)
  refine ga rfl rfl rfl rfl ?_
  refine gr_nil (gk_then ?_)
  refine gc_ret ?_
  refine gk_ret_then ?_
  refine gk_drop (L' := ((b, .cells [.map (some bo), .map (some bw), .map (some bt)].toArray 83 (0, 0)) :: (bo, ob) :: (bw, ow) :: (bt, ot) :: L)) sba ?_
  refine gk_result (L' := ((b, .cells [.map (some bo), .map (some bw), .map (some bt)].toArray 83 (0, 0)) :: (bo, ob) :: (bw, ow) :: (bt, ot) :: L)) (.inl rfl) _ (res1 rfl rfl) (List.Sublist.refl _) (Gh.le_refl _) ?_
  exact ⟨ob, ot, by rw [decide_eq_false hd], fun h => absurd h hd, fun _ => ⟨rfl, rfl⟩, rfl, rfl⟩
 ·have hd : o.depth = depthOf s o.preds := iN_f.1 hc0
  refine gc_skip ?_
  refine gk_then ?_
  refine gc_seq ?_
  refine gc_draw Tryd.mixed [(.mv, 0), (.mv, 1), (.mv, 2), (.mv, 3), (.mv, 4), (.mv, 5), (.fin, 6)] (by decide +kernel) _ (List.Sublist.refl _) ?_
  refine gm rfl rfl rfl rfl ?_
  refine gr_rd rfl rfl rfl (rd_nilCheck rfl) ?_
  refine gr_rd rfl rfl rfl (rd_fieldAddr Tryd.fa83_0 rfl) ?_
  refine gr_rd rfl rfl rfl (rd_load1 Tryd.to80 rfl (Cells.own (l := [.map (some bo), .map (some bw), .map (some bt)]) (T := 83) (z := (0, 0)) (by simp [baseL])) rfl) ?_
  refine gr_rd rfl rfl rfl (rd_loadA Tryd.ta34 rfl (Cells.own (l := encId n) (T := 34) (z := (0, 0)) (by simp [baseL])) (Seg.all _) (encId_length _)) ?_
  refine gr_rd rfl rfl rfl (rd_loadA Tryd.ta38 rfl (Cells.own (l := encOp o (.slice A o.preds.length cv)) (T := 38) (z := (0, 0)) (by simp [baseL])) (Seg.all _) (encOp_length _ _)) ?_
  refine gr_fin0 rfl rfl (nx_mapUpd (F := fun o1 => ((b5, .cells (encOp o (.slice A o.preds.length cv)).toArray 38 (0, 0)) :: (b4, .cells (encId n).toArray 34 (0, 0)) :: ((b, .cells [.map (some bo), .map (some bw), .map (some bt)].toArray 83 (0, 0)) :: (bo, o1) :: (bw, ow) :: (bt, ot) :: L))) Tryd.tm rfl rfl rfl hMo (fun _ => upd)) ?_; rintro _ H' L' hle ⟨ob1, rfl, rfl, hM1, rfl⟩
  have hE1 := hst ob1 hM1
  refine gr_nil (gk_then ?_)
  refine gc_seq ?_
  refine gc_seq (gc_seqr [(.mv, 0), (.mv, 1), (.mv, 2), (.mv, 3)] rfl ?_)
  refine gr_rd rfl rfl rfl (rd_fieldAddr Tryd.fa38_3 rfl) ?_
  refine gr_rd rfl rfl rfl (rd_load1 Tryd.to29 rfl cel at1) ?_
  refine gr_rd rfl rfl rfl (rd_lenS Tryd.underlying29 rfl) ?_
  refine gm rfl rfl rfl rfl ?_
  refine gr_nil (gk_then ?_)
  refine gc_block ?_
  refine gc_loop (fun t : PS => [(0, pt b 0), (22, (.slice A o.preds.length cv)), (23, i64 o.preds.length), (24, i64 t.k)]) (fun t H1 L1 => H = H1 ∧ ((b5, .cells (encOp o (.slice A o.preds.length cv)).toArray 38 (0, 0)) :: (b4, .cells (encId n).toArray 34 (0, 0)) :: ((b, .cells [.map (some bo), .map (some bw), .map (some bt)].toArray 83 (0, 0)) :: (bo, ob1) :: (bw, ow) :: (bt, t.ot) :: L)) = L1 ∧ t.k ≤ o.preds.length ∧ CntO t.ot (fun n' => cnt s.ops n' + (o.preds.take t.k).countP (· == n'))) (fun t => o.preds.length - t.k) (⟨0, ot⟩) ?_ sbs ?_
  ·exact ⟨rfl, rfl, Nat.zero_le _, hR.cnt⟩
  ·rintro ⟨k, otk⟩ H1 L1 ⟨rfl, rfl, hk, mt, hMt, hct⟩
   simp only at hk hMt hct
   show GC _ _ _ _ [(0, pt b 0), (22, (.slice A o.preds.length cv)), (23, i64 o.preds.length), (24, i64 k)] H ((b5, .cells (encOp o (.slice A o.preds.length cv)).toArray 38 (0, 0)) :: (b4, .cells (encId n).toArray 34 (0, 0)) :: ((b, .cells [.map (some bo), .map (some bw), .map (some bt)].toArray 83 (0, 0)) :: (bo, ob1) :: (bw, ow) :: (bt, otk) :: L))
   refine gc_seq (gc_seqr [(.mv, 0)] rfl ?_)
   refine gr_rd rfl rfl rfl (rd_lss rfl rfl) ?_
   refine gr_nil (gk_then ?_)
   refine gc_seq ?_
   refine gc_cond rfl (fun hc1 => ?_) (fun hc1 => ?_)
   ·have hlt : k < o.preds.length := by simpa using hc1
    obtain ⟨hAe, hca, hsa⟩ := ids_at2 (i := (k : Int)) hv1 hv2 hlt rfl
    have hfb : cnt s.ops (o.preds.getD k Nm.zero) ≤ 32 * s.ops.length := hcb _
    have hfc : (o.preds.take k).countP (· == (o.preds.getD k Nm.zero)) ≤ o.preds.length := Nat.le_trans List.countP_le_length (by simp; omega)
    refine gc_skip ?_
    refine gk_then ?_
    refine gc_seq ?_
    refine gc_block ?_
    refine gc_seq (gc_seqr [(.mv, 0), (.mv, 1), (.nm, 2), (.nm, 3)] rfl ?_)
    refine gr_rd rfl rfl rfl (rd_indexS Tryd.underlying29 Tryd.sizeOf34 rfl rfl hAe (by omega) (by omega)) ?_
    refine gr_rd rfl rfl rfl (rd_loadA Tryd.ta34 rfl (hca.mono (Gh.le_refl _) (by intro x hx; cases hx)) hsa (encId_length _)) ?_
    refine gr_nx rfl rfl rfl (nx_alloc Tryd.zeroValue34 rfl) ?_; rintro _ _ _ _ ⟨b8, rfl, rfl, rfl⟩; refine ⟨trivial, ?_⟩
    refine gr_nx0 rfl rfl (nx_store (vs := encId (o.preds.getD k Nm.zero)) Tryd.sizeOf34 rfl rfl rfl (encId_length _) upd (by simp) (encId_ones _)) ?_; rintro _ _ _ _ ⟨rfl, rfl, rfl⟩; refine ⟨trivial, ?_⟩
    rw [wr_all (by simp)]
    refine gr_nil (gk_then ?_)
    refine gc_draw3 Tryd.mixed [(.mv, 0), (.mv, 1), (.mv, 2), (.mv, 3), (.mv, 4)] 5 7 [(.mv, 6), (.mv, 8), (.fin, 9)] [(.mv, 6), (.nm, 7), (.mv, 8), (.fin, 9)] [(.mv, 8), (.nm, 5), (.mv, 6), (.fin, 9)] (by decide +kernel) [(b8, .cells (encId (o.preds.getD k Nm.zero)).toArray 34 (0, 0)), (b, .cells [.map (some bo), .map (some bw), .map (some bt)].toArray 83 (0, 0))] (sba) ?_ ?_
    ·skip
     show GR _ _ _ _ _ _ [(.mv, 0), (.mv, 1), (.mv, 2), (.mv, 3), (.mv, 4), (.nm, 5), (.mv, 6), (.nm, 7), (.mv, 8), (.fin, 9)] _ _
     refine gm rfl rfl rfl rfl ?_
     refine gr_rd rfl rfl rfl (rd_nilCheck rfl) ?_
     refine gr_rd rfl rfl rfl (rd_fieldAddr Tryd.fa83_2 rfl) ?_
     refine gr_rd rfl rfl rfl (rd_load1 Tryd.to81 rfl (Cells.own (l := [.map (some bo), .map (some bw), .map (some bt)]) (T := 83) (z := (0, 0)) (by simp [baseL])) rfl) ?_
     refine gr_rd rfl rfl rfl (rd_loadA Tryd.ta34 rfl (Cells.own (l := encId (o.preds.getD k Nm.zero)) (T := 34) (z := (0, 0)) (by simp [baseL])) (Seg.all _) (encId_length _)) ?_
     refine gr_nx rfl rfl rfl (Rd.nx (rd_lookup Tryd.tmi Tryd.zint rfl rfl (ob := otk) (by (repeat (first | exact List.mem_cons_self | apply List.mem_cons_of_mem)); done) hMt)) ?_; rintro v33 H' L' hle ⟨rfl, rfl, rfl⟩; refine ⟨kp, ?_⟩
     rw [hct]
     refine gr_rd rfl rfl rfl (rd_add rfl rfl (IntWalk.i64_in _ (by omega))) ?_
     refine gr_nx rfl rfl rfl (nx_mapEntry (F := fun o1 => (b8, .cells (encId (o.preds.getD k Nm.zero)).toArray 34 (0, 0)) :: ((b5, .cells (encOp o (.slice A o.preds.length cv)).toArray 38 (0, 0)) :: (b4, .cells (encId n).toArray 34 (0, 0)) :: ((b, .cells [.map (some bo), .map (some bw), .map (some bt)].toArray 83 (0, 0)) :: (bo, ob1) :: (bw, ow) :: (bt, o1) :: L))) Tryd.tmi Tryd.zint rfl rfl hMt (fun _ => upd)) ?_; rintro v35 H' L' hle ⟨ot1, m1, born, rfl, rfl, hM1, hlk1, rfl⟩; refine ⟨kp, ?_⟩
     refine gr_rd rfl rfl rfl (rd_extract rfl rfl) ?_
     refine gr_fin0 rfl rfl (nx_entryStore (F := fun o1 => (b8, .cells (encId (o.preds.getD k Nm.zero)).toArray 34 (0, 0)) :: ((b5, .cells (encOp o (.slice A o.preds.length cv)).toArray 38 (0, 0)) :: (b4, .cells (encId n).toArray 34 (0, 0)) :: ((b, .cells [.map (some bo), .map (some bw), .map (some bt)].toArray 83 (0, 0)) :: (bo, ob1) :: (bw, ow) :: (bt, o1) :: L))) rfl rfl rfl hM1 (fun _ => upd)) ?_; rintro _ H' L' hle2 ⟨ot2, m2, rfl, rfl, hM2, hlk2, rfl⟩
     refine gr_nil ?_
     refine gk_inBlock ?_
     refine gk_then ?_
     refine gc_seqr [(.mv, 0), (.mv, 1)] rfl ?_
     (first | refine gr_rd rfl rfl rfl (rd_add rfl rfl (IntWalk.i64_in _ (by omega))) ?_ | refine gr_rd rfl rfl rfl (rd_add rfl rfl rfl) ?_)
     refine gm rfl rfl rfl rfl ?_
     refine gr_nil ?_
     refine gk_drop (L' := ((b5, .cells (encOp o (.slice A o.preds.length cv)).toArray 38 (0, 0)) :: (b4, .cells (encId n).toArray 34 (0, 0)) :: ((b, .cells [.map (some bo), .map (some bw), .map (some bt)].toArray 83 (0, 0)) :: (bo, ob1) :: (bw, ow) :: (bt, ot2) :: L))) (List.sublist_cons_self _ _) ?_
     refine gk_round ⟨k + 1, ot2⟩ ?_ ⟨rfl, rfl, by simp only; omega, m2, hM2, fun n' => ?_⟩ sbs
     · show o.preds.length - (k + 1) < o.preds.length - k
       omega
     · show _ = i64 ((cnt s.ops n' + (o.preds.take (k + 1)).countP (· == n') : Nat) : Int)
       rw [hlk2]
       by_cases e : (o.preds.getD k Nm.zero) = n'
       · rw [if_pos e, Option.getD_some, count_take _ hlt, if_pos e, ← e]
         congr 1 <;> omega
       · rw [if_neg e, hlk1, if_neg e, hct, count_take _ hlt, if_neg e]
         rfl
    ·skip
     show GR _ _ _ _ _ _ [(.mv, 0), (.mv, 1), (.mv, 2), (.mv, 3), (.mv, 4), (.nm, 7), (.mv, 8), (.nm, 5), (.mv, 6), (.fin, 9)] _ _
     refine gm rfl rfl rfl rfl ?_
     refine gr_rd rfl rfl rfl (rd_nilCheck rfl) ?_
     refine gr_rd rfl rfl rfl (rd_fieldAddr Tryd.fa83_2 rfl) ?_
     refine gr_rd rfl rfl rfl (rd_load1 Tryd.to81 rfl (Cells.own (l := [.map (some bo), .map (some bw), .map (some bt)]) (T := 83) (z := (0, 0)) (by simp [baseL])) rfl) ?_
     refine gr_rd rfl rfl rfl (rd_loadA Tryd.ta34 rfl (Cells.own (l := encId (o.preds.getD k Nm.zero)) (T := 34) (z := (0, 0)) (by simp [baseL])) (Seg.all _) (encId_length _)) ?_
     refine gr_nx rfl rfl rfl (nx_mapEntry (F := fun o1 => (b8, .cells (encId (o.preds.getD k Nm.zero)).toArray 34 (0, 0)) :: ((b5, .cells (encOp o (.slice A o.preds.length cv)).toArray 38 (0, 0)) :: (b4, .cells (encId n).toArray 34 (0, 0)) :: ((b, .cells [.map (some bo), .map (some bw), .map (some bt)].toArray 83 (0, 0)) :: (bo, ob1) :: (bw, ow) :: (bt, o1) :: L))) Tryd.tmi Tryd.zint rfl rfl hMt (fun _ => upd)) ?_; rintro v35 H' L' hle ⟨ot1, m1, born, rfl, rfl, hM1, hlk1, rfl⟩; refine ⟨kp, ?_⟩
     refine gr_rd rfl rfl rfl (rd_extract rfl rfl) ?_
     refine gr_nx rfl rfl rfl (Rd.nx (rd_lookup Tryd.tmi Tryd.zint rfl rfl (ob := ot1) (by (repeat (first | exact List.mem_cons_self | apply List.mem_cons_of_mem)); done) hM1.mapO)) ?_; rintro v33 H' L' hle ⟨rfl, rfl, rfl⟩; refine ⟨kp, ?_⟩
     rw [hlk1, if_pos rfl, Option.getD_some, hct]
     refine gr_rd rfl rfl rfl (rd_add rfl rfl (IntWalk.i64_in _ (by omega))) ?_
     refine gr_fin0 rfl rfl (nx_entryStore (F := fun o1 => (b8, .cells (encId (o.preds.getD k Nm.zero)).toArray 34 (0, 0)) :: ((b5, .cells (encOp o (.slice A o.preds.length cv)).toArray 38 (0, 0)) :: (b4, .cells (encId n).toArray 34 (0, 0)) :: ((b, .cells [.map (some bo), .map (some bw), .map (some bt)].toArray 83 (0, 0)) :: (bo, ob1) :: (bw, ow) :: (bt, o1) :: L))) rfl rfl rfl hM1 (fun _ => upd)) ?_; rintro _ H' L' hle2 ⟨ot2, m2, rfl, rfl, hM2, hlk2, rfl⟩
     refine gr_nil ?_
     refine gk_inBlock ?_
     refine gk_then ?_
     refine gc_seqr [(.mv, 0), (.mv, 1)] rfl ?_
     (first | refine gr_rd rfl rfl rfl (rd_add rfl rfl (IntWalk.i64_in _ (by omega))) ?_ | refine gr_rd rfl rfl rfl (rd_add rfl rfl rfl) ?_)
     refine gm rfl rfl rfl rfl ?_
     refine gr_nil ?_
     refine gk_drop (L' := ((b5, .cells (encOp o (.slice A o.preds.length cv)).toArray 38 (0, 0)) :: (b4, .cells (encId n).toArray 34 (0, 0)) :: ((b, .cells [.map (some bo), .map (some bw), .map (some bt)].toArray 83 (0, 0)) :: (bo, ob1) :: (bw, ow) :: (bt, ot2) :: L))) (List.sublist_cons_self _ _) ?_
     refine gk_round ⟨k + 1, ot2⟩ ?_ ⟨rfl, rfl, by simp only; omega, m2, hM2, fun n' => ?_⟩ sbs
     · show o.preds.length - (k + 1) < o.preds.length - k
       omega
     · show _ = i64 ((cnt s.ops n' + (o.preds.take (k + 1)).countP (· == n') : Nat) : Int)
       rw [hlk2]
       by_cases e : (o.preds.getD k Nm.zero) = n'
       · rw [if_pos e, Option.getD_some, count_take _ hlt, if_pos e, ← e]
         congr 1 <;> omega
       · rw [if_neg e, hlk1, if_neg e, hct, count_take _ hlt, if_neg e]
         rfl
   ·have hge : k = o.preds.length := by simp at hc1; omega
    subst hge
    rw [List.take_length] at hct
    have hCn : CntO otk (cnt (s.ops ++ [(n, o)])) := ⟨mt, hMt, fun n' => by rw [cnt_append]; exact hct n'⟩
    refine gc_exit ?_
    refine gk_exit_then ?_
    refine gk_exit_then ?_
    refine gk_here ?_
    refine gk_then ?_
    refine gc_seq (gc_seqr [(.mv, 0)] rfl ?_)
    refine ga rfl rfl rfl rfl ?_
    refine gr_nil (gk_then ?_)
    refine gc_ret ?_
    refine gk_drop (L' := ((b, .cells [.map (some bo), .map (some bw), .map (some bt)].toArray 83 (0, 0)) :: (bo, ob1) :: (bw, ow) :: (bt, otk) :: L)) sba ?_
    refine gk_result (L' := ((b, .cells [.map (some bo), .map (some bw), .map (some bt)].toArray 83 (0, 0)) :: (bo, ob1) :: (bw, ow) :: (bt, otk) :: L)) (.inl rfl) _ (res1 rfl rfl) (List.Sublist.refl _) (Gh.le_refl _) ?_
    exact ⟨ob1, otk, by rw [decide_eq_true hd], fun _ => ⟨hE1, hCn⟩, fun h => absurd hd h, rfl, rfl⟩
end Go.Proofs.YtfhldfjknagidaaDoor

/-
  Walks: the program's set: who is ready; an operation comes.
-/
set_option linter.unusedSimpArgs false
set_option linter.unusedVariables false
set_option linter.unnecessarySimpa false
set_option linter.all false
namespace Go.Proofs.YtfhldfjknagidaaDoor
open Go.VK Go.Tr
set_option maxRecDepth 20000
attribute [local irreducible] Go.Tr.sha
theorem DRep.view {H : Gh} {L : Chunks} {b bo bw bt : Nat} {s : DSet} {ob ow ot : Obj} (h : DRep H s ob ow ot) (hc : Cells H L b [.map (some bo), .map (some bw), .map (some bt)]) (h1 : (bo, ob) ∈ L) (h2 : (bw, ow) ∈ L) (h3 : (bt, ot) ∈ L) : DView H L b bo bw bt s ob ow ot :=
  ⟨hc, h1, h2, h3, h.ops, h.wait, h.cnt⟩
theorem readyB_get {s : DSet} {n : Nm} {q : POp} (h : Tr.get s.wait n = some q) : readyB s n = whole s q := by
  simp [readyB, h]
theorem ready_at {s : DSet} {k : Nat} (hk : k < (waits s).length) (h : readyB s ((waits s).getD k Nm.zero) = true) (hb : ∀ j, j < k → readyB s ((waits s).getD j Nm.zero) = false) : readyOf s = some ((waits s).getD k Nm.zero) := by
  rw [readyOf, List.find?_eq_some_iff_getElem]
  have e : ∀ j (hj : j < (waits s).length), (waits s).getD j Nm.zero = (waits s)[j] := fun j hj => by rw [List.getD_eq_getElem?_getD, List.getElem?_eq_getElem hj]; rfl
  exact ⟨h, k, hk, (e k hk).symm, fun j hj => by rw [← e j (by omega), hb j hj]; rfl⟩
theorem ready_not {s : DSet} (hb : ∀ j, j < (waits s).length → readyB s ((waits s).getD j Nm.zero) = false) : readyOf s = none := by
  rw [readyOf, List.find?_eq_none]
  intro n hn
  obtain ⟨j, hj, rfl⟩ := List.getElem_of_mem hn
  have := hb j hj
  rw [List.getD_eq_getElem?_getD, List.getElem?_eq_getElem hj] at this
  simpa using this
theorem lacks_zero (s : DSet) (o : POp) : (((lacksOf s o).length : Int) == 0) = whole s o := by
  have h := lacks_whole s o
  cases hw : whole s o with
  | true =>
    rw [hw] at h
    have h1 := of_decide_eq_false h
    have h0 : (lacksOf s o).length = 0 := by omega
    rw [h0]; rfl
  | false =>
    rw [hw] at h
    have h1 := of_decide_eq_true h
    exact beq_eq_false_iff_ne.2 (by omega)
/-- What put leaves. -/
theorem DRep.put {H : Gh} {s : DSet} {ob ow ot ob' ot' : Obj} {n : Nm} {o : POp} (h : DRep H s ob ow ot) (hn : has s.ops n = false) (hw : has s.wait n = false) (hsm : o.preds.length ≤ 32) (h1 : EntO H ob' (s.ops ++ [(n, o)])) (h2 : CntO ot' (Tr.cnt (s.ops ++ [(n, o)]))) :
    DRep H ⟨s.ops ++ [(n, o)], s.wait⟩ ob' ow ot' := by
  refine ⟨h1, h.wait, h2, ?_, fun p hp => ?_⟩
  · have hno : n ∉ s.ops.map (·.1) ++ s.wait.map (·.1) := by
      rw [List.mem_append, not_or]
      exact ⟨fun hx => (by rw [has_mem.2 hx] at hn; cases hn), fun hx => (by rw [has_mem.2 hx] at hw; cases hw)⟩
    have hp : ((s.ops ++ [(n, o)]).map (·.1) ++ s.wait.map (·.1)).Perm (n :: (s.ops.map (·.1) ++ s.wait.map (·.1))) := by
      simp only [List.map_append, List.map_cons, List.map_nil, List.append_assoc, List.singleton_append]
      exact List.perm_middle
    exact hp.nodup_iff.2 (List.nodup_cons.2 ⟨hno, h.nd⟩)
  · rcases List.mem_append.1 hp with hp | hp
    · rcases List.mem_append.1 hp with hp | hp
      · exact h.small p (List.mem_append_left _ hp)
      · rw [List.mem_singleton.1 hp]; exact hsm
    · exact h.small p (List.mem_append_right _ hp)
/-- What waits is taken out. -/
theorem DRep.drop {H : Gh} {s : DSet} {ob ow ot ow' : Obj} {n : Nm} (h : DRep H s ob ow ot) (h1 : EntO H ow' (s.wait.filter fun p => !(p.1 == n))) : DRep H ⟨s.ops, s.wait.filter fun p => !(p.1 == n)⟩ ob ow' ot :=
  ⟨h.ops, h1, h.cnt, h.nd.sublist (List.Sublist.append (List.Sublist.refl _) ((List.filter_sublist).map _)), fun p hp => h.small p (by
    rcases List.mem_append.1 hp with hp | hp
    · exact List.mem_append_left _ hp
    · exact List.mem_append_right _ (List.mem_filter.1 hp).1)⟩
/-- One that waits comes in. -/
theorem DRep.wait' {H : Gh} {s : DSet} {ob ow ot ow' : Obj} {n : Nm} {o : POp} (h : DRep H s ob ow ot) (hn : has s.ops n = false) (hw : has s.wait n = false) (hsm : o.preds.length ≤ 32) (h1 : EntO H ow' (s.wait ++ [(n, o)])) :
    DRep H ⟨s.ops, s.wait ++ [(n, o)]⟩ ob ow' ot := by
  refine ⟨h.ops, h1, h.cnt, ?_, fun p hp => ?_⟩
  · have hno : n ∉ s.ops.map (·.1) ++ s.wait.map (·.1) := by
      rw [List.mem_append, not_or]
      exact ⟨fun hx => (by rw [has_mem.2 hx] at hn; cases hn), fun hx => (by rw [has_mem.2 hx] at hw; cases hw)⟩
    have hp : (s.ops.map (·.1) ++ (s.wait ++ [(n, o)]).map (·.1)).Perm (n :: (s.ops.map (·.1) ++ s.wait.map (·.1))) := by
      simp only [List.map_append, List.map_cons, List.map_nil]
      rw [← List.append_assoc]
      exact List.perm_append_singleton _ _
    exact hp.nodup_iff.2 (List.nodup_cons.2 ⟨hno, h.nd⟩)
  · rcases List.mem_append.1 hp with hp | hp
    · exact h.small p (List.mem_append_left _ hp)
    · rcases List.mem_append.1 hp with hp | hp
      · exact h.small p (List.mem_append_right _ hp)
      · rw [List.mem_singleton.1 hp]; exact hsm
theorem DRep.ndw {H : Gh} {s : DSet} {ob ow ot : Obj} (h : DRep H s ob ow ot) : (s.wait.map (·.1)).Nodup := (List.nodup_append.1 h.nd).2.1
theorem DRep.apart {H : Gh} {s : DSet} {ob ow ot : Obj} (h : DRep H s ob ow ot) {n : Nm} (hw : has s.wait n = true) : has s.ops n = false := by
  cases hh : has s.ops n with
  | false => rfl
  | true => exact absurd rfl ((List.nodup_append.1 h.nd).2.2 n (has_mem.1 hh) n (has_mem.1 hw))
theorem has_dropped (l : List (Nm × POp)) (n : Nm) : has (l.filter fun p => !(p.1 == n)) n = false := by
  rw [has, List.any_eq_false]
  intro p hp
  have := (List.mem_filter.1 hp).2
  simpa using this
theorem good_small {o : POp} (h : good o = true) : o.preds.length ≤ 32 := by
  simp only [good, Bool.and_eq_true, decide_eq_true_eq] at h
  exact h.1.2

set_option maxHeartbeats 1000000 in
theorem ready_cc (H : Gh) (L : Chunks) {b bo bw bt : Nat} {s : DSet} {ob ow ot : Obj} (hR : DRep H s ob ow ot) (hz : s.wait.length < 16777216) :
    CC Tryd.prog 47 #[pt b 0] H ((b, .cells [.map (some bo), .map (some bw), .map (some bt)].toArray 83 (0, 0)) :: (bo, ob) :: (bw, ow) :: (bt, ot) :: L) (fun v H' L' => v = .tuple #[ag (encId ((readyOf s).getD Nm.zero)), .bool (readyOf s).isSome] ∧ H = H' ∧ ((b, .cells [.map (some bo), .map (some bw), .map (some bt)].toArray 83 (0, 0)) :: (bo, ob) :: (bw, ow) :: (bt, ot) :: L) = L') := by
 obtain ⟨m, hM, hmn, hlk⟩ := look_op hR.wait
 have hml : m.length = s.wait.length := by have := congrArg List.length hmn; simpa using this
 have hwl : (waits s).length = m.length := by rw [waits, rising_length, List.length_map, hml]
 refine cc_of Tryd.func47 rfl (Nat.le_of_ble_eq_true rfl) ?_
 simp only [Tryd.ntmps47]
 refine gc_seq (gc_seqr [(.nm, 0), (.mv, 1)] rfl ?_)
 refine gr_nx rfl rfl rfl (nx_alloc Tryd.zeroValue34 rfl) ?_; rintro _ _ _ _ ⟨b2, rfl, rfl, rfl⟩; refine ⟨trivial, ?_⟩
 refine ga rfl rfl rfl rfl ?_
 refine gr_nil (gk_then ?_)
 refine gc_seq ?_
 refine gc_seq (gc_seqr [(.mv, 0), (.mv, 1), (.mv, 2), (.mv, 3), (.nm, 4), (.nm, 5), (.mv, 6), (.mv, 7)] rfl ?_)
 refine gm rfl rfl rfl rfl ?_
 refine gr_rd rfl rfl rfl (rd_nilCheck rfl) ?_
 refine gr_rd rfl rfl rfl (rd_fieldAddr Tryd.fa83_1 rfl) ?_
 refine gr_rd rfl rfl rfl (rd_load1 Tryd.to80 rfl (Cells.own (l := [.map (some bo), .map (some bw), .map (some bt)]) (T := 83) (z := (0, 0)) (by simp [baseL])) rfl) ?_
 refine gr_nx rfl rfl rfl (nx_call Tryd.en49 rfl (keys_cc _ _ (.map (some bw)) rfl)) ?_; rintro v10 H' L' hle ⟨Bm, rfl, rfl, rfl⟩; refine ⟨trivial, ?_⟩
 refine gr_perm (L' := ((Bm, .cells [.map (some bw)].toArray 80 (0, 0)) :: (bw, ow) :: ((b2, .cells (encId Nm.zero).toArray 34 (0, 0)) :: (b, .cells [.map (some bo), .map (some bw), .map (some bt)].toArray 83 (0, 0)) :: (bo, ob) :: (bt, ot) :: L))) (by haveI : DecidableEq (Nat × Obj) := fun _ _ => Classical.propDecidable _; rw [List.perm_iff_count]; intro a; simp only [List.count_append, List.count_cons, List.count_nil]; ac_rfl) ?_
 refine gr_nx rfl rfl rfl (nx_call Tryd.en48 rfl (sorted_cc _ _ hM (by omega))) ?_; rintro v11 H' L' hle ⟨C, hO, rfl, rfl⟩; refine ⟨trivial, ?_⟩
 obtain ⟨An, cn, rfl, hcn⟩ := hO.slice
 rw [hmn, show rising (s.wait.map (·.1)) = waits s from rfl, ← hwl] at hO
 rw [← hwl] at hcn ⊢
 refine gr_rd rfl rfl rfl (rd_lenS Tryd.underlying29 rfl) ?_
 refine gm rfl rfl rfl rfl ?_
 refine gr_perm (L' := [(Bm, .cells [.map (some bw)].toArray 80 (0, 0))] ++ ((b2, .cells (encId Nm.zero).toArray 34 (0, 0)) :: (C ++ ((b, .cells [.map (some bo), .map (some bw), .map (some bt)].toArray 83 (0, 0)) :: (bo, ob) :: (bw, ow) :: (bt, ot) :: L)))) (by haveI : DecidableEq (Nat × Obj) := fun _ _ => Classical.propDecidable _; rw [List.perm_iff_count]; intro a; simp only [List.count_append, List.count_cons, List.count_nil]; ac_rfl) ?_
 refine gr_drop (L' := ((b2, .cells (encId Nm.zero).toArray 34 (0, 0)) :: (C ++ ((b, .cells [.map (some bo), .map (some bw), .map (some bt)].toArray 83 (0, 0)) :: (bo, ob) :: (bw, ow) :: (bt, ot) :: L)))) (List.sublist_append_right _ _) ?_
 obtain ⟨_, bn, on, cn', ln, hne, hcn2, hnn, hn0, hn1, hn2⟩ := (Ow.slT (H := H) (L := ((b2, .cells (encId Nm.zero).toArray 34 (0, 0)) :: (C ++ ((b, .cells [.map (some bo), .map (some bw), .map (some bt)].toArray 83 (0, 0)) :: (bo, ob) :: (bw, ow) :: (bt, ot) :: L)))) (xs := waits s) encId_length hO rfl (by omega) (by intro x hx; simp [hx]))
 cases hne
 refine gr_nil (gk_then ?_)
 refine gc_block ?_
 refine gc_loop (fun k : Nat => [(0, pt b 0), (2, pt b2 0), (11, .slice An (waits s).length cn), (12, i64 (waits s).length), (13, i64 k)]) (fun k H1 L1 => H = H1 ∧ ((b2, .cells (encId Nm.zero).toArray 34 (0, 0)) :: (C ++ ((b, .cells [.map (some bo), .map (some bw), .map (some bt)].toArray 83 (0, 0)) :: (bo, ob) :: (bw, ow) :: (bt, ot) :: L))) = L1 ∧ k ≤ (waits s).length ∧ ∀ j, j < k → readyB s ((waits s).getD j Nm.zero) = false) (fun k => (waits s).length - k) (0) ?_ sbs ?_
 ·exact ⟨rfl, rfl, Nat.zero_le _, fun j hj => absurd hj (Nat.not_lt_zero _)⟩
 ·rintro k H1 L1 ⟨rfl, rfl, hk, hnr⟩
  refine gc_seq (gc_seqr [(.mv, 0)] rfl ?_)
  refine gr_rd rfl rfl rfl (rd_lss rfl rfl) ?_
  refine gr_nil (gk_then ?_)
  refine gc_seq ?_
  refine gc_cond rfl (fun hc0 => ?_) (fun hc0 => ?_)
  ·have hlt : k < (waits s).length := by simpa using hc0
   obtain ⟨hAe, hca, hsa⟩ := ids_at2 (i := (k : Int)) hn1 hn2 hlt rfl
   refine gc_skip ?_
   refine gk_then ?_
   refine gc_seq ?_
   refine gc_block ?_
   refine gc_seq (gc_seqr [(.mv, 0), (.mv, 1), (.nm, 2), (.nm, 3)] rfl ?_)
   refine gr_rd rfl rfl rfl (rd_indexS Tryd.underlying29 Tryd.sizeOf34 rfl rfl hAe (by omega) (by omega)) ?_
   refine gr_rd rfl rfl rfl (rd_loadA Tryd.ta34 rfl hca hsa (encId_length _)) ?_
   refine gr_nx rfl rfl rfl (nx_alloc Tryd.zeroValue34 rfl) ?_; rintro _ _ _ _ ⟨b5, rfl, rfl, rfl⟩; refine ⟨trivial, ?_⟩
   refine gr_nx0 rfl rfl (nx_store (vs := encId ((waits s).getD k Nm.zero)) Tryd.sizeOf34 rfl rfl rfl (encId_length _) upd (by simp) (encId_ones _)) ?_; rintro _ _ _ _ ⟨rfl, rfl, rfl⟩; refine ⟨trivial, ?_⟩
   rw [wr_all (by simp)]
   refine gr_nil (gk_then ?_)
   refine gc_seq ?_
   refine gc_draw Tryd.mixed [(.mv, 0), (.mv, 1), (.mv, 2), (.mv, 3), (.mv, 4), (.mv, 5), (.mv, 6), (.fin, 7), (.fin, 8), (.fin, 9)] (by decide +kernel) _ (List.Sublist.refl _) ?_
   refine gm rfl rfl rfl rfl ?_
   refine gm rfl rfl rfl rfl ?_
   refine gr_rd rfl rfl rfl (rd_nilCheck rfl) ?_
   refine gr_rd rfl rfl rfl (rd_fieldAddr Tryd.fa83_1 rfl) ?_
   refine gr_rd rfl rfl rfl (rd_load1 Tryd.to80 rfl (Cells.own (l := [.map (some bo), .map (some bw), .map (some bt)]) (T := 83) (z := (0, 0)) (by simp [baseL])) rfl) ?_
   refine gr_rd rfl rfl rfl (rd_loadA Tryd.ta34 rfl (Cells.own (l := encId ((waits s).getD k Nm.zero)) (T := 34) (z := (0, 0)) (by simp [baseL])) (Seg.all _) (encId_length _)) ?_
   refine gr_rd rfl rfl rfl (rd_lookup Tryd.tm Tryd.zop rfl rfl (by simp [baseL]) hM) ?_
   obtain ⟨q, pq, hq1, hq2, hq3, hq4⟩ := hlk ((waits s).getD k Nm.zero)
   rw [hq1]
   have hgq : Tr.get s.wait ((waits s).getD k Nm.zero) = some q := by
     rcases hq4 with h | ⟨h, _⟩
     · exact h
     · have h1 : has s.wait ((waits s).getD k Nm.zero) = true := has_mem.2 (mem_rising.1 (List.mem_of_getElem? (getD_at hlt)))
       rw [get_none.1 h] at h1; cases h1
   have hqs := hR.small _ (List.mem_append_right _ (get_mem hgq))
   refine gr_fin rfl rfl rfl (nx_call Tryd.en44 rfl (lacks_cc _ _ (hR.view (b := b) (bo := bo) (bw := bw) (bt := bt) (Cells.own (l := [.map (some bo), .map (some bw), .map (some bt)]) (T := 83) (z := (0, 0)) (by simp )) (by simp) (by simp) (by simp)) q pq hq3.any (by simp only at hqs; omega))) ?_; rintro v24 H' L' hle ⟨C2, hO2, rfl, rfl⟩
   obtain ⟨a2, c2, rfl, hc2⟩ := hO2.slice
   (refine gr_fin rfl rfl rfl (Rd.nx (rd_lenS Tryd.underlying29 rfl)) ?_; rintro _ _ _ _ ⟨rfl, rfl, rfl⟩)
   (refine gr_fin rfl rfl rfl (Rd.nx (rd_eql rfl rfl)) ?_; rintro _ _ _ _ ⟨rfl, rfl, rfl⟩)
   refine gr_nil (gk_then ?_)
   refine gc_cond rfl (fun hcR4 => ?_) (fun hcR4 => ?_)
   ·have hrd := ready_at hlt (by rw [readyB_get hgq, ← lacks_zero]; exact hcR4) hnr
    refine gc_seq (gc_seqr [(.mv, 0), (.nm, 1), (.mv, 2)] rfl ?_)
    refine gr_rd rfl rfl rfl (rd_loadA Tryd.ta34 rfl (Cells.own (l := encId ((waits s).getD k Nm.zero)) (T := 34) (z := (0, 0)) (by simp [baseL])) (Seg.all _) (encId_length _)) ?_
    refine gr_nx0 rfl rfl (nx_store (vs := encId ((waits s).getD k Nm.zero)) Tryd.sizeOf34 rfl rfl rfl (encId_length _) upd (by simp) (encId_ones _)) ?_; rintro _ _ _ _ ⟨rfl, rfl, rfl⟩; refine ⟨trivial, ?_⟩
    rw [wr_all (by simp)]
    refine ga rfl rfl rfl rfl ?_
    refine gr_nil (gk_then ?_)
    refine gc_ret ?_
    refine gk_ret_inBlock ?_
    refine gk_ret_then ?_
    refine gk_ret_then ?_
    refine gk_ret_inBlock ?_
    refine gk_ret_then ?_
    refine gk_result (L' := ((b, .cells [.map (some bo), .map (some bw), .map (some bt)].toArray 83 (0, 0)) :: (bo, ob) :: (bw, ow) :: (bt, ot) :: L)) (.inl rfl) _ (resC2 rfl rfl Tryd.ta34 (Cells.own (l := encId ((waits s).getD k Nm.zero)) (T := 34) (z := (0, 0)) (by simp )) (Seg.all _) (encId_length _) rfl) sba (Gh.le_refl _) ?_
    exact ⟨by rw [hrd]; rfl, rfl, rfl⟩
   ·skip
    refine gc_skip ?_
    refine gk_inBlock ?_
    refine gk_then ?_
    refine gc_seqr [(.mv, 0), (.mv, 1)] rfl ?_
    (first | refine gr_rd rfl rfl rfl (rd_add rfl rfl (IntWalk.i64_in _ (by omega))) ?_ | refine gr_rd rfl rfl rfl (rd_add rfl rfl rfl) ?_)
    refine gm rfl rfl rfl rfl ?_
    refine gr_nil ?_
    refine gk_drop (L' := ((b2, .cells (encId Nm.zero).toArray 34 (0, 0)) :: (C ++ ((b, .cells [.map (some bo), .map (some bw), .map (some bt)].toArray 83 (0, 0)) :: (bo, ob) :: (bw, ow) :: (bt, ot) :: L)))) (by repeat (first | exact List.Sublist.refl _ | apply List.Sublist.cons_cons | apply List.Sublist.cons | refine List.Sublist.trans ?_ (List.sublist_append_right _ _))) ?_
    refine gk_round (k + 1) (by omega) ⟨rfl, rfl, by omega, fun j hj => ?_⟩ sbs
    by_cases e : j = k
    · subst e; rw [readyB_get hgq, ← lacks_zero]; exact hcR4
    · exact hnr j (by omega)
  ·have hge : k = (waits s).length := by simp at hc0; omega
   have hrd := ready_not (s := s) (fun j hj => hnr j (by omega))
   refine gc_exit ?_
   refine gk_exit_then ?_
   refine gk_exit_then ?_
   refine gk_here ?_
   refine gk_then ?_
   refine gc_seq (gc_seqr [(.mv, 0), (.nm, 1), (.mv, 2)] rfl ?_)
   refine gr_rd rfl rfl rfl (zero_build (zl := encId Nm.zero) Tryd.underlying34 Tryd.zeroValue34 rfl Tryd.sizeOf5) ?_
   refine gr_nx0 rfl rfl (nx_store (vs := encId Nm.zero) Tryd.sizeOf34 rfl rfl rfl (encId_length _) upd (by simp) (encId_ones _)) ?_; rintro _ _ _ _ ⟨rfl, rfl, rfl⟩; refine ⟨trivial, ?_⟩
   rw [wr_all (by simp)]
   refine ga rfl rfl rfl rfl ?_
   refine gr_nil (gk_then ?_)
   refine gc_ret ?_
   refine gk_result (L' := ((b, .cells [.map (some bo), .map (some bw), .map (some bt)].toArray 83 (0, 0)) :: (bo, ob) :: (bw, ow) :: (bt, ot) :: L)) (.inl rfl) _ (resC2 rfl rfl Tryd.ta34 (Cells.own (l := encId Nm.zero) (T := 34) (z := (0, 0)) (by simp )) (Seg.all _) (encId_length _) rfl) sba (Gh.le_refl _) ?_
   exact ⟨by rw [hrd]; rfl, rfl, rfl⟩
end Go.Proofs.YtfhldfjknagidaaDoor

/-
  Walks: the program's set takes an operation.
-/
set_option linter.unusedSimpArgs false
set_option linter.unusedVariables false
set_option linter.unnecessarySimpa false
set_option linter.all false
namespace Go.Proofs.YtfhldfjknagidaaDoor
open Go.VK Go.Tr
set_option maxRecDepth 20000
attribute [local irreducible] Go.Tr.sha
structure TS where
  k : Nat
  s : DSet
  out : List Nm
  ob : Obj
  ow : Obj
  ot : Obj
  C : Chunks
  vo : Value
  b12 : Nat
theorem settle_done {k : Nat} {s : DSet} {out : List Nm} (hnd : (s.wait.map (·.1)).Nodup) (h : readyOf s = none) : Tr.settle k s out = (s, out) := by
  cases k with
  | zero => rfl
  | succ k => rw [Tr.settle, ready_none hnd h]
theorem settle_next {k : Nat} {s : DSet} {out : List Nm} {n : Nm} (hnd : (s.wait.map (·.1)).Nodup) (h : readyOf s = some n) : ∃ q, Tr.get s.wait n = some q ∧ whole s q = true ∧
    Tr.settle (k + 1) s out = if q.depth = depthOf s q.preds then Tr.settle k ⟨s.ops ++ [(n, q)], s.wait.filter fun p => !(p.1 == n)⟩ (out ++ [n]) else Tr.settle k ⟨s.ops, s.wait.filter fun p => !(p.1 == n)⟩ out := by
  obtain ⟨i, o, h1, h2, h3, h4, h5⟩ := ready_some hnd h
  refine ⟨o, h3, h4, ?_⟩
  rw [settle_step h1 h2, h5]
  rfl
theorem filter_less {l : List (Nm × POp)} {n : Nm} (h : has l n = true) : (l.filter fun p => !(p.1 == n)).length < l.length := by
  obtain ⟨p, hp, he⟩ := List.any_eq_true.1 h
  refine List.length_filter_lt_length_iff_exists.2 ⟨p, hp, ?_⟩
  simp [he]

set_option maxHeartbeats 4000000 in
theorem take_cc (H : Gh) (hG : Glob H) (L : Chunks) {b bo bw bt : Nat} {s : DSet} {ob ow ot : Obj} (hR : DRep H s ob ow ot) (hz : s.ops.length + s.wait.length < 16777215) (o : POp) (pv : Value) (hp : Ids H L pv o.preds) (ho : SmallO o) :
    CC Tryd.prog 13 #[pt b 0, ag (encOp o pv)] H ((b, .cells [.map (some bo), .map (some bw), .map (some bt)].toArray 83 (0, 0)) :: (bo, ob) :: (bw, ow) :: (bt, ot) :: L) (fun v H' L' => ∃ ob' ow' ot' C vo, DRep H' (take s o).1 ob' ow' ot' ∧ Ow 34 32 C vo (take s o).2.1.length ((take s o).2.1.flatMap encId) ∧ v = .tuple #[vo, i64 (take s o).2.2] ∧ C ++ ((b, .cells [.map (some bo), .map (some bw), .map (some bt)].toArray 83 (0, 0)) :: (bo, ob') :: (bw, ow') :: (bt, ot') :: L) = L') := by
 obtain ⟨mo, hMo, hmno, hlko⟩ := look_op hR.ops
 obtain ⟨mw, hMw, hmnw, hlkw⟩ := look_op hR.wait
 have hpl := ho.preds
 have hpm : ∀ (X : Chunks), (∀ x ∈ L, x ∈ X) → Ids H X pv o.preds := fun X hX => hp.mono (Gh.le_refl _) hX
 refine cc_of Tryd.func13 rfl (Nat.le_of_ble_eq_true rfl) ?_
 simp only [Tryd.ntmps13]
 refine gc_seq (gc_seqr [(.nm, 0), (.mv, 1), (.mv, 2)] rfl ?_)
 refine gr_nx rfl rfl rfl (nx_box rfl rfl) ?_; rintro _ _ _ _ ⟨b3, rfl, rfl, rfl⟩; refine ⟨trivial, ?_⟩
 refine ga rfl rfl rfl rfl ?_
 refine ga rfl rfl rfl rfl ?_
 refine gr_nil (gk_then ?_)
 refine gc_seq ?_
 refine gc_block ?_
 refine gc_seq (gc_seqr [(.mv, 0), (.mv, 1), (.mv, 2)] rfl ?_)
 refine gm rfl rfl rfl rfl ?_
 refine gr_rd rfl rfl rfl (rd_ptrNil Tryd.underlying27 rfl rfl) ?_
 refine ga rfl rfl rfl rfl ?_
 refine gr_nil (gk_then ?_)
 refine gc_no rfl ?_
 refine gc_seq (gc_seqr [(.mv, 0), (.nm, 1), (.mv, 2), (.mv, 3)] rfl ?_)
 refine gr_rd rfl rfl rfl (rd_loadA Tryd.ta38 rfl (Cells.own (l := encOp o pv) (T := 38) (z := (0, 0)) (by simp [baseL])) (Seg.all _) (encOp_length _ _)) ?_
 refine gr_nx rfl rfl rfl (nx_call Tryd.en42 rfl (good_cc _ _ o pv (hpm _ (by intro x hx; simp [hx])))) ?_; rintro v20 H' L' hle ⟨rfl, rfl, rfl⟩; refine ⟨trivial, ?_⟩
 refine gr_rd rfl rfl rfl (rd_not rfl) ?_
 refine ga rfl rfl rfl rfl ?_
 refine gr_nil (gk_then ?_)
 refine gc_cond rfl (fun hcR3 => ?_) (fun hcR3 => ?_)
 ·have ht : take s o = (s, [], 1) := by rw [take, if_pos (by simpa using hcR3)]
  refine gc_seq (gc_seqr [(.mv, 0), (.mv, 1)] rfl ?_)
  refine ga rfl rfl rfl rfl ?_
  refine ga rfl rfl rfl rfl ?_
  refine gr_nil (gk_then ?_)
  refine gc_ret ?_
  refine gk_ret_inBlock ?_
  refine gk_ret_then ?_
  refine gk_drop (L' := [] ++ ((b, .cells [.map (some bo), .map (some bw), .map (some bt)].toArray 83 (0, 0)) :: (bo, ob) :: (bw, ow) :: (bt, ot) :: L)) sba ?_
  refine gk_result (L' := [] ++ ((b, .cells [.map (some bo), .map (some bw), .map (some bt)].toArray 83 (0, 0)) :: (bo, ob) :: (bw, ow) :: (bt, ot) :: L)) (.inl rfl) _ (res2 rfl rfl rfl) (List.Sublist.refl _) gle ?_
  exact ⟨ob, ow, ot, [], _, by rw [ht]; exact hR, by rw [ht]; exact Ow.nil, by rw [ht], rfl⟩
 ·have hgd : good o = true := by simpa using hcR3
  have hps := good_small hgd
  refine gc_skip ?_
  refine gk_inBlock ?_
  refine gk_then ?_
  refine gc_seq (gc_seqr [(.mv, 0), (.nm, 1), (.nm, 2), (.nm, 3)] rfl ?_)
  refine gr_rd rfl rfl rfl (rd_loadA Tryd.ta38 rfl (Cells.own (l := encOp o pv) (T := 38) (z := (0, 0)) (by simp [baseL])) (Seg.all _) (encOp_length _ _)) ?_
  refine gr_nx rfl rfl rfl (nx_call Tryd.en43 rfl (name_cc _ hG _ o pv (hpm _ (by intro x hx; simp [hx])) ho)) ?_; rintro v23 H' L' hle ⟨rfl, rfl, rfl⟩; refine ⟨trivial, ?_⟩
  refine gr_nx rfl rfl rfl (nx_alloc Tryd.zeroValue34 rfl) ?_; rintro _ _ _ _ ⟨b6, rfl, rfl, rfl⟩; refine ⟨trivial, ?_⟩
  refine gr_nx0 rfl rfl (nx_store (vs := encId (nameOf o)) Tryd.sizeOf34 rfl rfl rfl (encId_length _) upd (by simp) (encId_ones _)) ?_; rintro _ _ _ _ ⟨rfl, rfl, rfl⟩; refine ⟨trivial, ?_⟩
  rw [wr_all (by simp)]
  refine gr_nil (gk_then ?_)
  refine gc_seq ?_
  refine gc_draw Tryd.mixed [(.mv, 0), (.mv, 1), (.mv, 2), (.mv, 3), (.mv, 4), (.mv, 5), (.mv, 6), (.mv, 7), (.mv, 8), (.nm, 9), (.nm, 10), (.mv, 11)] (by decide +kernel) _ (List.Sublist.refl _) ?_
  refine gm rfl rfl rfl rfl ?_
  refine gr_rd rfl rfl rfl (rd_nilCheck rfl) ?_
  refine gr_rd rfl rfl rfl (rd_fieldAddr Tryd.fa83_0 rfl) ?_
  refine gr_rd rfl rfl rfl (rd_load1 Tryd.to80 rfl (Cells.own (l := [.map (some bo), .map (some bw), .map (some bt)]) (T := 83) (z := (0, 0)) (by simp [baseL])) rfl) ?_
  refine gr_rd rfl rfl rfl (rd_loadA Tryd.ta34 rfl (Cells.own (l := encId (nameOf o)) (T := 34) (z := (0, 0)) (by simp [baseL])) (Seg.all _) (encId_length _)) ?_
  refine gr_rd rfl rfl rfl (rd_lookupOk Tryd.tm Tryd.zop rfl rfl (by simp [baseL]) hMo) ?_
  obtain ⟨q1, pq1, hq11, hq12, hq13, hq14⟩ := hlko (nameOf o)
  rw [hq11, hq12]
  refine gm rfl rfl rfl rfl ?_
  refine gr_rd rfl rfl rfl (rd_extract rfl rfl) ?_
  refine gr_rd rfl rfl rfl (rd_extract rfl rfl) ?_
  refine gr_nx rfl rfl rfl (nx_alloc Tryd.zeroValue38 rfl) ?_; rintro _ _ _ _ ⟨b7, rfl, rfl, rfl⟩; refine ⟨kp, ?_⟩
  refine gr_nx0 rfl rfl (nx_store (vs := encOp q1 pq1) Tryd.sizeOf38 rfl rfl rfl (encOp_length _ _) upd (by simp) (encOp_ones _ hq13.one)) ?_; rintro _ _ _ _ ⟨rfl, rfl, rfl⟩; refine ⟨kp, ?_⟩
  rw [wr_all (by simp)]
  refine ga rfl rfl rfl rfl ?_
  refine gr_nil (gk_then ?_)
  refine gc_seq ?_
  refine gc_draw Tryd.mixed [(.mv, 0), (.mv, 1), (.mv, 2), (.mv, 3), (.mv, 4), (.mv, 5), (.mv, 6), (.mv, 7), (.mv, 8), (.nm, 9), (.nm, 10), (.mv, 11)] (by decide +kernel) _ (List.Sublist.refl _) ?_
  refine gm rfl rfl rfl rfl ?_
  refine gr_rd rfl rfl rfl (rd_nilCheck rfl) ?_
  refine gr_rd rfl rfl rfl (rd_fieldAddr Tryd.fa83_1 rfl) ?_
  refine gr_rd rfl rfl rfl (rd_load1 Tryd.to80 rfl (Cells.own (l := [.map (some bo), .map (some bw), .map (some bt)]) (T := 83) (z := (0, 0)) (by simp [baseL])) rfl) ?_
  refine gr_rd rfl rfl rfl (rd_loadA Tryd.ta34 rfl (Cells.own (l := encId (nameOf o)) (T := 34) (z := (0, 0)) (by simp [baseL])) (Seg.all _) (encId_length _)) ?_
  refine gr_rd rfl rfl rfl (rd_lookupOk Tryd.tm Tryd.zop rfl rfl (by simp [baseL]) hMw) ?_
  obtain ⟨q2, pq2, hq21, hq22, hq23, hq24⟩ := hlkw (nameOf o)
  rw [hq21, hq22]
  refine gm rfl rfl rfl rfl ?_
  refine gr_rd rfl rfl rfl (rd_extract rfl rfl) ?_
  refine gr_rd rfl rfl rfl (rd_extract rfl rfl) ?_
  refine gr_nx rfl rfl rfl (nx_alloc Tryd.zeroValue38 rfl) ?_; rintro _ _ _ _ ⟨b9, rfl, rfl, rfl⟩; refine ⟨kp, ?_⟩
  refine gr_nx0 rfl rfl (nx_store (vs := encOp q2 pq2) Tryd.sizeOf38 rfl rfl rfl (encOp_length _ _) upd (by simp) (encOp_ones _ hq23.one)) ?_; rintro _ _ _ _ ⟨rfl, rfl, rfl⟩; refine ⟨kp, ?_⟩
  rw [wr_all (by simp)]
  refine ga rfl rfl rfl rfl ?_
  refine gr_nil (gk_then ?_)
  refine gc_seq ?_
  refine gc_block ?_
  refine gc_seq (gc_seqr [(.mv, 0), (.mv, 1), (.mv, 2), (.mv, 3), (.mv, 4)] rfl ?_)
  refine gm rfl rfl rfl rfl ?_
  refine gm rfl rfl rfl rfl ?_
  refine gr_split rfl (fun hg1 => ?_) (fun hg1 => ?_)
  ·skip
   refine gr_no rfl rfl rfl ?_
   (first | refine gpt rfl rfl rfl rfl rfl ?_ | refine gpf rfl rfl rfl rfl rfl ?_)
   refine ga rfl rfl rfl rfl ?_
   refine gr_nil (gk_then ?_)
   refine gc_yes rfl ?_
   have hin : (has s.ops (nameOf o) || has s.wait (nameOf o)) = true := by
     first | (rw [hg1]; rfl) | (rw [hcR8]; simp)
   have ht : take s o = (s, [], 9) := by rw [take, if_neg (by rw [hgd]; decide), if_pos hin]
   refine gc_seq (gc_seqr [(.mv, 0), (.mv, 1)] rfl ?_)
   refine ga rfl rfl rfl rfl ?_
   refine ga rfl rfl rfl rfl ?_
   refine gr_nil (gk_then ?_)
   refine gc_ret ?_
   refine gk_ret_inBlock ?_
   refine gk_ret_then ?_
   refine gk_drop (L' := [] ++ ((b, .cells [.map (some bo), .map (some bw), .map (some bt)].toArray 83 (0, 0)) :: (bo, ob) :: (bw, ow) :: (bt, ot) :: L)) sba ?_
   refine gk_result (L' := [] ++ ((b, .cells [.map (some bo), .map (some bw), .map (some bt)].toArray 83 (0, 0)) :: (bo, ob) :: (bw, ow) :: (bt, ot) :: L)) (.inl rfl) _ (res2 rfl rfl rfl) (List.Sublist.refl _) gle ?_
   exact ⟨ob, ow, ot, [], _, by rw [ht]; exact hR, by rw [ht]; exact Ow.nil, by rw [ht], rfl⟩
  ·skip
   refine gm rfl rfl rfl rfl ?_
   (first | refine gpt rfl rfl rfl rfl rfl ?_ | refine gpf rfl rfl rfl rfl rfl ?_)
   refine ga rfl rfl rfl rfl ?_
   refine gr_nil (gk_then ?_)
   refine gc_cond rfl (fun hcR8 => ?_) (fun hcR8 => ?_)
   ·have hin : (has s.ops (nameOf o) || has s.wait (nameOf o)) = true := by
      first | (rw [hg1]; rfl) | (rw [hcR8]; simp)
    have ht : take s o = (s, [], 9) := by rw [take, if_neg (by rw [hgd]; decide), if_pos hin]
    refine gc_seq (gc_seqr [(.mv, 0), (.mv, 1)] rfl ?_)
    refine ga rfl rfl rfl rfl ?_
    refine ga rfl rfl rfl rfl ?_
    refine gr_nil (gk_then ?_)
    refine gc_ret ?_
    refine gk_ret_inBlock ?_
    refine gk_ret_then ?_
    refine gk_drop (L' := [] ++ ((b, .cells [.map (some bo), .map (some bw), .map (some bt)].toArray 83 (0, 0)) :: (bo, ob) :: (bw, ow) :: (bt, ot) :: L)) sba ?_
    refine gk_result (L' := [] ++ ((b, .cells [.map (some bo), .map (some bw), .map (some bt)].toArray 83 (0, 0)) :: (bo, ob) :: (bw, ow) :: (bt, ot) :: L)) (.inl rfl) _ (res2 rfl rfl rfl) (List.Sublist.refl _) gle ?_
    exact ⟨ob, ow, ot, [], _, by rw [ht]; exact hR, by rw [ht]; exact Ow.nil, by rw [ht], rfl⟩
   ·have hno : has s.ops (nameOf o) = false := hg1
    have hnw : has s.wait (nameOf o) = false := hcR8
    have hin : ¬ (has s.ops (nameOf o) || has s.wait (nameOf o)) = true := by rw [hno, hnw]; decide
    refine gc_seq (gc_seqr [(.mv, 0), (.mv, 1), (.nm, 2), (.mv, 3), (.mv, 4), (.mv, 5)] rfl ?_)
    refine gm rfl rfl rfl rfl ?_
    refine gr_rd rfl rfl rfl (rd_loadA Tryd.ta38 rfl (Cells.own (l := encOp o pv) (T := 38) (z := (0, 0)) (by simp [baseL])) (Seg.all _) (encOp_length _ _)) ?_
    refine gr_nx rfl rfl rfl (nx_call Tryd.en44 rfl (lacks_cc _ _ (hR.view (b := b) (bo := bo) (bw := bw) (bt := bt) (Cells.own (l := [.map (some bo), .map (some bw), .map (some bt)]) (T := 83) (z := (0, 0)) (by simp )) (by simp) (by simp) (by simp)) o pv (hpm _ (by intro x hx; simp [hx])) hpl)) ?_; rintro v50 H' L' hle ⟨C1, hO1, rfl, rfl⟩; refine ⟨trivial, ?_⟩
    obtain ⟨a1, c1, rfl, hc1⟩ := hO1.slice
    refine gr_drop (L' := (b9, .cells (encOp q2 pq2).toArray 38 (0, 0)) :: (b7, .cells (encOp q1 pq1).toArray 38 (0, 0)) :: (b6, .cells (encId (nameOf o)).toArray 34 (0, 0)) :: (b3, .cells (encOp o pv).toArray 38 (0, 0)) :: ((b, .cells [.map (some bo), .map (some bw), .map (some bt)].toArray 83 (0, 0)) :: (bo, ob) :: (bw, ow) :: (bt, ot) :: L)) (List.sublist_append_right _ _) ?_
    refine gr_rd rfl rfl rfl (rd_lenS Tryd.underlying29 rfl) ?_
    refine gr_rd rfl rfl rfl (rd_gtr rfl rfl) ?_
    refine ga rfl rfl rfl rfl ?_
    refine gr_nil (gk_then ?_)
    refine gc_cond rfl (fun hcR10 => ?_) (fun hcR10 => ?_)
    ·have hw : whole s o = false := by have := lacks_whole s o; rw [hcR10] at this; simpa using this.symm
     have ht : take s o = (⟨s.ops, s.wait ++ [(nameOf o, o)]⟩, [], 0) := by rw [take, if_neg (by rw [hgd]; decide), if_neg hin, if_pos (by rw [hw]; rfl)]
     refine gc_seq ?_
     refine gc_draw Tryd.mixed [(.mv, 0), (.mv, 1), (.mv, 2), (.mv, 3), (.mv, 4), (.mv, 5), (.nm, 6), (.fin, 7)] (by decide +kernel) _ (List.Sublist.refl _) ?_
     refine gm rfl rfl rfl rfl ?_
     refine gr_rd rfl rfl rfl (rd_nilCheck rfl) ?_
     refine gr_rd rfl rfl rfl (rd_fieldAddr Tryd.fa83_1 rfl) ?_
     refine gr_rd rfl rfl rfl (rd_load1 Tryd.to80 rfl (Cells.own (l := [.map (some bo), .map (some bw), .map (some bt)]) (T := 83) (z := (0, 0)) (by simp [baseL])) rfl) ?_
     refine gr_rd rfl rfl rfl (rd_loadA Tryd.ta34 rfl (Cells.own (l := encId (nameOf o)) (T := 34) (z := (0, 0)) (by simp [baseL])) (Seg.all _) (encId_length _)) ?_
     refine gr_rd rfl rfl rfl (rd_loadA Tryd.ta38 rfl (Cells.own (l := encOp o pv) (T := 38) (z := (0, 0)) (by simp [baseL])) (Seg.all _) (encOp_length _ _)) ?_
     refine gr_nx rfl rfl rfl (nx_call Tryd.en45 rfl (clone_cc _ _ o pv (hpm _ (by intro x hx; simp [hx])) hpl)) ?_; rintro v59 H' L' hle ⟨C2, u2, rfl, hO2, rfl, rfl⟩; refine ⟨kp, ?_⟩
     refine gr_sealOw encId_length hO2 rfl (by omega) (fun H2 hH2 hs2 => ?_)
     have hR2 := hR.up hH2
     obtain ⟨mw2, hMw2, hst2⟩ := hR2.wait.store hnw hs2
     refine gr_fin0 rfl rfl (nx_mapUpd (F := fun o1 => (b9, .cells (encOp q2 pq2).toArray 38 (0, 0)) :: (b7, .cells (encOp q1 pq1).toArray 38 (0, 0)) :: (b6, .cells (encId (nameOf o)).toArray 34 (0, 0)) :: (b3, .cells (encOp o pv).toArray 38 (0, 0)) :: ((b, .cells [.map (some bo), .map (some bw), .map (some bt)].toArray 83 (0, 0)) :: (bo, ob) :: (bw, o1) :: (bt, ot) :: L)) Tryd.tm rfl rfl rfl hMw2 (fun _ => upd)) ?_; rintro _ H' L' hle ⟨ow1, rfl, rfl, hM1, rfl⟩
     have hR3 := hR2.wait' hno hnw hps (hst2 ow1 hM1)
     refine gr_nil (gk_then ?_)
     refine gc_seq (gc_seqr [(.mv, 0), (.mv, 1)] rfl ?_)
     refine ga rfl rfl rfl rfl ?_
     refine ga rfl rfl rfl rfl ?_
     refine gr_nil (gk_then ?_)
     refine gc_ret ?_
     refine gk_ret_inBlock ?_
     refine gk_ret_then ?_
     refine gk_drop (L' := [] ++ ((b, .cells [.map (some bo), .map (some bw), .map (some bt)].toArray 83 (0, 0)) :: (bo, ob) :: (bw, ow1) :: (bt, ot) :: L)) sba ?_
     refine gk_result (L' := [] ++ ((b, .cells [.map (some bo), .map (some bw), .map (some bt)].toArray 83 (0, 0)) :: (bo, ob) :: (bw, ow1) :: (bt, ot) :: L)) (.inl rfl) _ (res2 rfl rfl rfl) (List.Sublist.refl _) gle ?_
     exact ⟨ob, ow1, ot, [], _, by rw [ht]; exact hR3, by rw [ht]; exact Ow.nil, by rw [ht], rfl⟩
    ·have hw : whole s o = true := by have := lacks_whole s o; rw [hcR10] at this; simpa using this.symm
     refine gc_seq ?_
     refine gc_draw Tryd.mixed [(.mv, 0), (.mv, 1), (.mv, 2), (.nm, 3), (.fin, 4), (.fin, 5), (.fin, 6)] (by decide +kernel) [(b6, .cells (encId (nameOf o)).toArray 34 (0, 0)), (b3, .cells (encOp o pv).toArray 38 (0, 0))] (sba) ?_
     refine gm rfl rfl rfl rfl ?_
     refine gr_rd rfl rfl rfl (rd_loadA Tryd.ta34 rfl (Cells.own (l := encId (nameOf o)) (T := 34) (z := (0, 0)) (by simp [baseL])) (Seg.all _) (encId_length _)) ?_
     refine gr_rd rfl rfl rfl (rd_loadA Tryd.ta38 rfl (Cells.own (l := encOp o pv) (T := 38) (z := (0, 0)) (by simp [baseL])) (Seg.all _) (encOp_length _ _)) ?_
     refine gr_nx rfl rfl rfl (nx_call Tryd.en45 rfl (clone_cc _ _ o pv (hpm _ (by intro x hx; simp [hx])) hpl)) ?_; rintro v64 H' L' hle ⟨C2, u2, rfl, hO2, rfl, rfl⟩; refine ⟨kp, ?_⟩
     refine gr_sealOw encId_length hO2 rfl (by omega) (fun H2 hH2 hs2 => ?_)
     replace hR := hR.up hH2
     refine gr_perm (L' := ((b, .cells [.map (some bo), .map (some bw), .map (some bt)].toArray 83 (0, 0)) :: (bo, ob) :: (bw, ow) :: (bt, ot) :: ((b9, .cells (encOp q2 pq2).toArray 38 (0, 0)) :: (b7, .cells (encOp q1 pq1).toArray 38 (0, 0)) :: (b6, .cells (encId (nameOf o)).toArray 34 (0, 0)) :: (b3, .cells (encOp o pv).toArray 38 (0, 0)) :: L))) (by haveI : DecidableEq (Nat × Obj) := fun _ _ => Classical.propDecidable _; rw [List.perm_iff_count]; intro a; simp only [List.count_append, List.count_cons, List.count_nil]; ac_rfl) ?_
     refine gr_fin rfl rfl rfl (nx_call Tryd.en46 rfl (put_cc _ _ hR (by omega) (nameOf o) o u2 hs2 hno hps)) ?_; rintro v65 H' L' hle ⟨ob1, ot1, rfl, hput1, hput2, rfl, rfl⟩
     (refine gr_fin rfl rfl rfl (Rd.nx (rd_not rfl)) ?_; rintro _ _ _ _ ⟨rfl, rfl, rfl⟩)
     refine gr_fin rfl rfl rfl (Rd.nx (rd_assign rfl)) ?_; rintro _ _ _ _ ⟨rfl, rfl, rfl⟩
     refine gr_nil (gk_then ?_)
     refine gc_cond rfl (fun hcR13 => ?_) (fun hcR13 => ?_)
     ·have hd : ¬ o.depth = depthOf s o.preds := by simpa using hcR13
      obtain ⟨e1, e2⟩ := hput2 hd
      rw [e1, e2]
      have ht : take s o = (s, [], 10) := by rw [take, if_neg (by rw [hgd]; decide), if_neg hin, if_neg (by rw [hw]; decide), if_pos hd]
      refine gc_seq (gc_seqr [(.mv, 0), (.mv, 1)] rfl ?_)
      refine ga rfl rfl rfl rfl ?_
      refine ga rfl rfl rfl rfl ?_
      refine gr_nil (gk_then ?_)
      refine gc_ret ?_
      refine gk_ret_inBlock ?_
      refine gk_ret_then ?_
      refine gk_drop (L' := [] ++ ((b, .cells [.map (some bo), .map (some bw), .map (some bt)].toArray 83 (0, 0)) :: (bo, ob) :: (bw, ow) :: (bt, ot) :: L)) sba ?_
      refine gk_result (L' := [] ++ ((b, .cells [.map (some bo), .map (some bw), .map (some bt)].toArray 83 (0, 0)) :: (bo, ob) :: (bw, ow) :: (bt, ot) :: L)) (.inl rfl) _ (res2 rfl rfl rfl) (List.Sublist.refl _) gle ?_
      exact ⟨ob, ow, ot, [], _, by rw [ht]; exact hR, by rw [ht]; exact Ow.nil, by rw [ht], rfl⟩
     ·have hd : o.depth = depthOf s o.preds := by simpa using hcR13
      obtain ⟨hp1, hp2⟩ := hput1 hd
      have hR1 := hR.put hno hnw hps hp1 hp2
      obtain ⟨s1, hs1⟩ : ∃ s1 : DSet, (⟨s.ops ++ [(nameOf o, o)], s.wait⟩ : DSet) = s1 := ⟨_, rfl⟩
      have h1l : s1.ops.length = s.ops.length + 1 ∧ s1.wait.length = s.wait.length := by rw [← hs1]; simp
      have ht : take s o = ((Tr.settle (s.wait.length + 1) s1 [nameOf o]).1, (Tr.settle (s.wait.length + 1) s1 [nameOf o]).2, 0) := by rw [take, if_neg (by rw [hgd]; decide), if_neg hin, if_neg (by rw [hw]; decide), if_neg (by rw [hd]; simp), hs1]
      rw [hs1] at hR1
      refine gc_skip ?_
      refine gk_inBlock ?_
      refine gk_then ?_
      refine gc_seq (gc_seqr [(.mv, 0), (.nm, 1), (.mv, 2)] rfl ?_)
      refine gr_rd rfl rfl rfl (rd_loadA Tryd.ta34 rfl (Cells.own (l := encId (nameOf o)) (T := 34) (z := (0, 0)) (by simp [baseL])) (Seg.all _) (encId_length _)) ?_
      refine gr_nx rfl rfl rfl (nx_sliceA1 Tryd.underlying29 Tryd.sizeOf34 Tryd.zeroValue34 rfl rfl rfl lnk rfl) ?_; rintro _ _ _ _ ⟨b68, rfl, rfl, rfl⟩; refine ⟨trivial, ?_⟩
      refine ga rfl rfl rfl rfl ?_
      refine gr_nil (gk_then ?_)
      refine gc_seq ?_
      refine gc_seq (gc_seqr [(.mv, 0), (.nm, 1), (.mv, 2), (.mv, 3), (.mv, 4), (.nm, 5), (.nm, 6), (.mv, 7)] rfl ?_)
      refine gm rfl rfl rfl rfl ?_
      refine gr_perm (L' := ((b, .cells [.map (some bo), .map (some bw), .map (some bt)].toArray 83 (0, 0)) :: (bo, ob1) :: (bw, ow) :: (bt, ot1) :: ((b68, .cells (encId (nameOf o)).toArray 34 (0, 0)) :: (b9, .cells (encOp q2 pq2).toArray 38 (0, 0)) :: (b7, .cells (encOp q1 pq1).toArray 38 (0, 0)) :: (b6, .cells (encId (nameOf o)).toArray 34 (0, 0)) :: (b3, .cells (encOp o pv).toArray 38 (0, 0)) :: L))) (by haveI : DecidableEq (Nat × Obj) := fun _ _ => Classical.propDecidable _; rw [List.perm_iff_count]; intro a; simp only [List.count_append, List.count_cons, List.count_nil]; ac_rfl) ?_
      refine gr_nx rfl rfl rfl (nx_call Tryd.en47 rfl (ready_cc _ _ hR1 (by omega))) ?_; rintro v71 H' L' hle ⟨rfl, rfl, rfl⟩; refine ⟨trivial, ?_⟩
      refine gm rfl rfl rfl rfl ?_
      refine gr_rd rfl rfl rfl (rd_extract rfl rfl) ?_
      refine gr_rd rfl rfl rfl (rd_extract rfl rfl) ?_
      refine gr_nx rfl rfl rfl (nx_alloc Tryd.zeroValue34 rfl) ?_; rintro _ _ _ _ ⟨b12, rfl, rfl, rfl⟩; refine ⟨trivial, ?_⟩
      refine gr_nx0 rfl rfl (nx_store (vs := encId ((readyOf s1).getD Nm.zero)) Tryd.sizeOf34 rfl rfl rfl (encId_length _) upd (by simp) (encId_ones _)) ?_; rintro _ _ _ _ ⟨rfl, rfl, rfl⟩; refine ⟨trivial, ?_⟩
      rw [wr_all (by simp)]
      refine ga rfl rfl rfl rfl ?_
      refine gr_perm (L' := ([(b9, .cells (encOp q2 pq2).toArray 38 (0, 0)), (b7, .cells (encOp q1 pq1).toArray 38 (0, 0)), (b6, .cells (encId (nameOf o)).toArray 34 (0, 0)), (b3, .cells (encOp o pv).toArray 38 (0, 0))]) ++ ((b12, .cells (encId ((readyOf s1).getD Nm.zero)).toArray 34 (0, 0)) :: ([(b68, .cells (encId (nameOf o)).toArray 34 (0, 0))] ++ ((b, .cells [.map (some bo), .map (some bw), .map (some bt)].toArray 83 (0, 0)) :: (bo, ob1) :: (bw, ow) :: (bt, ot1) :: L)))) (by haveI : DecidableEq (Nat × Obj) := fun _ _ => Classical.propDecidable _; rw [List.perm_iff_count]; intro a; simp only [List.count_append, List.count_cons, List.count_nil]; ac_rfl) ?_
      refine gr_drop (L' := (b12, .cells (encId ((readyOf s1).getD Nm.zero)).toArray 34 (0, 0)) :: ([(b68, .cells (encId (nameOf o)).toArray 34 (0, 0))] ++ ((b, .cells [.map (some bo), .map (some bw), .map (some bt)].toArray 83 (0, 0)) :: (bo, ob1) :: (bw, ow) :: (bt, ot1) :: L))) (List.sublist_append_right _ _) ?_
      refine gr_nil (gk_then ?_)
      refine gc_block ?_
      refine gc_loop (fun t : TS => [(0, pt b 0), (11, t.vo), (12, pt t.b12 0), (13, .bool (readyOf t.s).isSome)]) (fun t H3 L3 => H ≤ H3 ∧ (t.b12, .cells (encId ((readyOf t.s).getD Nm.zero)).toArray 34 (0, 0)) :: (t.C ++ ((b, .cells [.map (some bo), .map (some bw), .map (some bt)].toArray 83 (0, 0)) :: (bo, t.ob) :: (bw, t.ow) :: (bt, t.ot) :: L)) = L3 ∧ DRep H3 t.s t.ob t.ow t.ot ∧ Ow 34 32 t.C t.vo t.out.length (t.out.flatMap encId) ∧ t.s.ops.length + t.s.wait.length ≤ s.ops.length + s.wait.length + 1 ∧ t.out.length + t.s.wait.length ≤ s.wait.length + 1 ∧ t.s.wait.length < t.k ∧ Tr.settle t.k t.s t.out = Tr.settle (s.wait.length + 1) s1 [nameOf o]) (fun t => t.s.wait.length) (⟨s.wait.length + 1, s1, [nameOf o], ob1, ow, ot1, [(b68, .cells (encId (nameOf o)).toArray 34 (0, 0))], .slice (some ⟨b68, 0, none⟩) 1 1, b12⟩) ?_ sbs ?_
      ·exact ⟨hH2, rfl, hR1, by simpa using Ow.new (by simp), by simp only; omega, by simp only [List.length_cons, List.length_nil]; omega, by simp only; omega, rfl⟩
      ·rintro ⟨k, sx, out, ob2, ow2, ot2, C, vo, b12'⟩ H3 L3 ⟨hH3, rfl, hRx, hO, hz1, hz2, hkx, hset⟩
       simp only at hRx hO hz1 hz2 hkx hset
       show GC _ _ _ _ [(0, pt b 0), (11, vo), (12, pt b12' 0), (13, .bool (readyOf sx).isSome)] H3 ((b12', .cells (encId ((readyOf sx).getD Nm.zero)).toArray 34 (0, 0)) :: (C ++ ((b, .cells [.map (some bo), .map (some bw), .map (some bt)].toArray 83 (0, 0)) :: (bo, ob2) :: (bw, ow2) :: (bt, ot2) :: L)))
       refine gc_seq ?_
       refine gc_seq (gc_seqr [(.mv, 0)] rfl ?_)
       refine gm rfl rfl rfl rfl ?_
       refine gr_nil (gk_then ?_)
       refine gc_cond rfl (fun hcR17 => ?_) (fun hcR17 => ?_)
       ·obtain ⟨n, hn⟩ := Option.isSome_iff_exists.1 hcR17
        obtain ⟨k', rfl⟩ : ∃ k', k = k' + 1 := ⟨k - 1, by omega⟩
        obtain ⟨q, hgq, hwq, hsn⟩ := settle_next (k := k') (out := out) hRx.ndw hn
        rw [hn, Option.getD_some, Option.isSome_some]
        obtain ⟨mq, hMq, _, hlkq⟩ := look_op hRx.wait
        have hhw : has sx.wait n = true := by rw [← get_isSome, hgq]; rfl
        have hho := hRx.apart hhw
        have hqs := hRx.small _ (List.mem_append_right _ (get_mem hgq))
        simp only at hqs
        have hfl := filter_less hhw
        obtain ⟨md, hMd, hstd⟩ := hRx.wait.drop n
        refine gc_skip ?_
        refine gk_then ?_
        refine gc_seq ?_
        refine gc_block ?_
        refine gc_seq ?_
        refine gc_draw Tryd.mixed [(.mv, 0), (.mv, 1), (.mv, 2), (.mv, 3), (.mv, 4), (.mv, 5), (.nm, 6), (.fin, 7)] (by decide +kernel) _ (List.Sublist.refl _) ?_
        refine gm rfl rfl rfl rfl ?_
        refine gr_rd rfl rfl rfl (rd_nilCheck rfl) ?_
        refine gr_rd rfl rfl rfl (rd_fieldAddr Tryd.fa83_1 rfl) ?_
        refine gr_rd rfl rfl rfl (rd_load1 Tryd.to80 rfl (Cells.own (l := [.map (some bo), .map (some bw), .map (some bt)]) (T := 83) (z := (0, 0)) (by simp [baseL])) rfl) ?_
        refine gr_rd rfl rfl rfl (rd_loadA Tryd.ta34 rfl (Cells.own (l := encId n) (T := 34) (z := (0, 0)) (by simp [baseL])) (Seg.all _) (encId_length _)) ?_
        refine gr_rd rfl rfl rfl (rd_lookup Tryd.tm Tryd.zop rfl rfl (by simp [baseL]) hMq) ?_
        obtain ⟨q', pq, hq1, hq2, hq3, hq4⟩ := hlkq n
        have hqq : q' = q := by
          rcases hq4 with h | ⟨h, _⟩
          · rw [hgq] at h; cases h; rfl
          · rw [hgq] at h; cases h
        subst hqq
        rw [hq1]
        refine gr_nx rfl rfl rfl (nx_alloc Tryd.zeroValue38 rfl) ?_; rintro _ _ _ _ ⟨b14, rfl, rfl, rfl⟩; refine ⟨kp, ?_⟩
        refine gr_fin0 rfl rfl (nx_store (vs := encOp q' pq) Tryd.sizeOf38 rfl rfl rfl (encOp_length _ _) upd (by simp) (encOp_ones _ hq3.one)) ?_; rintro _ _ _ _ ⟨rfl, rfl, rfl⟩
        rw [wr_all (by simp)]
        refine gr_nil (gk_then ?_)
        refine gc_seq ?_
        refine gc_draw Tryd.mixed [(.mv, 0), (.mv, 1), (.mv, 2), (.mv, 3), (.mv, 4), (.fin, 5)] (by decide +kernel) _ (List.Sublist.refl _) ?_
        refine gm rfl rfl rfl rfl ?_
        refine gr_rd rfl rfl rfl (rd_nilCheck rfl) ?_
        refine gr_rd rfl rfl rfl (rd_fieldAddr Tryd.fa83_1 rfl) ?_
        refine gr_rd rfl rfl rfl (rd_load1 Tryd.to80 rfl (Cells.own (l := [.map (some bo), .map (some bw), .map (some bt)]) (T := 83) (z := (0, 0)) (by simp [baseL])) rfl) ?_
        refine gr_rd rfl rfl rfl (rd_loadA Tryd.ta34 rfl (Cells.own (l := encId n) (T := 34) (z := (0, 0)) (by simp [baseL])) (Seg.all _) (encId_length _)) ?_
        refine gr_fin0 rfl rfl (nx_delete (F := fun o1 => (b14, .cells (encOp q' pq).toArray 38 (0, 0)) :: (b12', .cells (encId n).toArray 34 (0, 0)) :: (C ++ ((b, .cells [.map (some bo), .map (some bw), .map (some bt)].toArray 83 (0, 0)) :: (bo, ob2) :: (bw, o1) :: (bt, ot2) :: L))) Tryd.tm rfl rfl hMd (fun _ => upd)) ?_; rintro _ H' L' hle5 ⟨ow3, rfl, hM3, rfl⟩
        have hRd := hRx.drop (hstd ow3 hM3)
        refine gr_nil (gk_then ?_)
        refine gc_seq (gc_seqr [(.mv, 0), (.mv, 1), (.mv, 2), (.nm, 3)] rfl ?_)
        refine gm rfl rfl rfl rfl ?_
        refine gr_rd rfl rfl rfl (rd_loadA Tryd.ta34 rfl (Cells.own (l := encId n) (T := 34) (z := (0, 0)) (by simp [baseL])) (Seg.all _) (encId_length _)) ?_
        refine gr_rd rfl rfl rfl (rd_loadA Tryd.ta38 rfl (Cells.own (l := encOp q' pq) (T := 38) (z := (0, 0)) (by simp [baseL])) (Seg.all _) (encOp_length _ _)) ?_
        refine gr_perm (L' := ((b, .cells [.map (some bo), .map (some bw), .map (some bt)].toArray 83 (0, 0)) :: (bo, ob2) :: (bw, ow3) :: (bt, ot2) :: ((b14, .cells (encOp q' pq).toArray 38 (0, 0)) :: (b12', .cells (encId n).toArray 34 (0, 0)) :: (C ++ L)))) (by haveI : DecidableEq (Nat × Obj) := fun _ _ => Classical.propDecidable _; rw [List.perm_iff_count]; intro a; simp only [List.count_append, List.count_cons, List.count_nil]; ac_rfl) ?_
        refine gr_nx rfl rfl rfl (nx_call Tryd.en46 rfl (put_cc _ _ hRd (by simp only; omega) n q' pq hq3 hho hqs)) ?_; rintro v94 H' L' hle ⟨ob3, ot3, rfl, hpt1, hpt2, rfl, rfl⟩; refine ⟨trivial, ?_⟩
        refine gr_nil (gk_then ?_)
        refine gc_cond rfl (fun hcR21 => ?_) (fun hcR21 => ?_)
        ·have hd3 : q'.depth = depthOf sx q'.preds := of_decide_eq_true hcR21
         obtain ⟨h1, h2⟩ := hpt1 hd3
         have hR3 := hRd.put hho (has_dropped _ _) hqs h1 h2
         obtain ⟨s3, hs3⟩ : ∃ s3 : DSet, (⟨sx.ops ++ [(n, q')], sx.wait.filter fun p => !(p.1 == n)⟩ : DSet) = s3 := ⟨_, rfl⟩
         have h3l : s3.ops.length = sx.ops.length + 1 ∧ s3.wait.length < sx.wait.length := by rw [← hs3]; exact ⟨by simp, hfl⟩
         rw [hs3] at hR3
         refine gc_seqr [(.mv, 0), (.mv, 1), (.nm, 2), (.nm, 3), (.mv, 4)] rfl ?_
         refine gm rfl rfl rfl rfl ?_
         refine gr_rd rfl rfl rfl (rd_loadA Tryd.ta34 rfl (Cells.own (l := encId n) (T := 34) (z := (0, 0)) (by simp [baseL])) (Seg.all _) (encId_length _)) ?_
         refine gr_nx rfl rfl rfl (nx_sliceA1 Tryd.underlying29 Tryd.sizeOf34 Tryd.zeroValue34 rfl rfl rfl lnk rfl) ?_; rintro _ _ _ _ ⟨b97, rfl, rfl, rfl⟩; refine ⟨trivial, ?_⟩
         refine gr_nx rfl rfl rfl (nx_append (m := 1) Tryd.app29_29 rfl rfl hO pik (src_slice (b := b97) (o := 0) (l := encId n) (m := 1) (by simp) (encId_ones _) (fun h => by cases h) (fun _ _ => ⟨rfl, Cells.own List.mem_cons_self, Seg.all _⟩)) (by omega) (by omega)) ?_; rintro v98 H' L' hle ⟨C3, hO3, _, rfl, rfl⟩; refine ⟨trivial, ?_⟩
         refine ga rfl rfl rfl rfl ?_
         refine gr_nil ?_
         refine gk_inBlock ?_
         refine gk_then ?_
         refine gc_seq ?_
         refine gc_seq (gc_seqr [(.mv, 0)] rfl ?_)
         refine gr_rd rfl rfl rfl (rd_loadA Tryd.ta34 rfl (Cells.own (l := encId n) (T := 34) (z := (0, 0)) (by simp [baseL])) (Seg.all _) (encId_length _)) ?_
         refine gr_nil (gk_then ?_)
         refine gc_seqr [(.nm, 0), (.nm, 1)] rfl ?_
         refine gr_nx rfl rfl rfl (nx_alloc Tryd.zeroValue34 rfl) ?_; rintro _ _ _ _ ⟨b12n, rfl, rfl, rfl⟩; refine ⟨trivial, ?_⟩
         refine gr_nx0 rfl rfl (nx_store (vs := encId n) Tryd.sizeOf34 rfl rfl rfl (encId_length _) upd (by simp) (encId_ones _)) ?_; rintro _ _ _ _ ⟨rfl, rfl, rfl⟩; refine ⟨trivial, ?_⟩
         rw [wr_all (by simp)]
         refine gr_nil (gk_then ?_)
         refine gc_seqr [(.mv, 0), (.nm, 1), (.mv, 2), (.mv, 3), (.mv, 4), (.nm, 5), (.mv, 6)] rfl ?_
         refine gm rfl rfl rfl rfl ?_
         first
           | refine gr_perm (L' := ((b, .cells [.map (some bo), .map (some bw), .map (some bt)].toArray 83 (0, 0)) :: (bo, ob3) :: (bw, ow3) :: (bt, ot3) :: ((b12n, .cells (encId n).toArray 34 (0, 0)) :: (b97, .cells (encId n).toArray 34 (0, 0)) :: (b14, .cells (encOp q' pq).toArray 38 (0, 0)) :: (b12', .cells (encId n).toArray 34 (0, 0)) :: (C3 ++ L)))) (by haveI : DecidableEq (Nat × Obj) := fun _ _ => Classical.propDecidable _; rw [List.perm_iff_count]; intro a; simp only [List.count_append, List.count_cons, List.count_nil]; ac_rfl) ?_
           | refine gr_perm (L' := ((b, .cells [.map (some bo), .map (some bw), .map (some bt)].toArray 83 (0, 0)) :: (bo, ob3) :: (bw, ow3) :: (bt, ot3) :: ((b12n, .cells (encId n).toArray 34 (0, 0)) :: (b14, .cells (encOp q' pq).toArray 38 (0, 0)) :: (b12', .cells (encId n).toArray 34 (0, 0)) :: (C ++ L)))) (by haveI : DecidableEq (Nat × Obj) := fun _ _ => Classical.propDecidable _; rw [List.perm_iff_count]; intro a; simp only [List.count_append, List.count_cons, List.count_nil]; ac_rfl) ?_
         refine gr_nx rfl rfl rfl (nx_call Tryd.en47 rfl (ready_cc _ _ hR3 (by omega))) ?_; rintro v77 H' L' hle ⟨rfl, rfl, rfl⟩; refine ⟨trivial, ?_⟩
         refine gm rfl rfl rfl rfl ?_
         refine gr_rd rfl rfl rfl (rd_extract rfl rfl) ?_
         refine gr_rd rfl rfl rfl (rd_extract rfl rfl) ?_
         refine gr_nx0 rfl rfl (nx_store (vs := encId ((readyOf s3).getD Nm.zero)) Tryd.sizeOf34 rfl rfl rfl (encId_length _) upd (by simp) (encId_ones _)) ?_; rintro _ _ _ _ ⟨rfl, rfl, rfl⟩; refine ⟨trivial, ?_⟩
         rw [wr_all (by simp)]
         refine ga rfl rfl rfl rfl ?_
         refine gr_nil ?_
         first
           | (refine gk_perm (L' := ([(b97, .cells (encId n).toArray 34 (0, 0)), (b14, .cells (encOp q' pq).toArray 38 (0, 0)), (b12', .cells (encId n).toArray 34 (0, 0))]) ++ ((b12n, .cells (encId ((readyOf s3).getD Nm.zero)).toArray 34 (0, 0)) :: (C3 ++ ((b, .cells [.map (some bo), .map (some bw), .map (some bt)].toArray 83 (0, 0)) :: (bo, ob3) :: (bw, ow3) :: (bt, ot3) :: L)))) (by haveI : DecidableEq (Nat × Obj) := fun _ _ => Classical.propDecidable _; rw [List.perm_iff_count]; intro a; simp only [List.count_append, List.count_cons, List.count_nil]; ac_rfl) ?_
              refine gk_drop (L' := ((b12n, .cells (encId ((readyOf s3).getD Nm.zero)).toArray 34 (0, 0)) :: (C3 ++ ((b, .cells [.map (some bo), .map (some bw), .map (some bt)].toArray 83 (0, 0)) :: (bo, ob3) :: (bw, ow3) :: (bt, ot3) :: L)))) (List.sublist_append_right _ _) ?_
              refine gk_round ⟨k', s3, out ++ [n], ob3, ow3, ot3, C3, v98, b12n⟩ ?_ ⟨hH3, rfl, hR3, by simpa using hO3, by simp only; omega, by simp only [List.length_append, List.length_cons, List.length_nil]; omega, by simp only; omega, ?_⟩ sbs
              · show s3.wait.length < sx.wait.length
                omega
              · rw [← hset, hsn, if_pos hd3, hs3])
           | (refine gk_perm (L' := ([(b14, .cells (encOp q' pq).toArray 38 (0, 0)), (b12', .cells (encId n).toArray 34 (0, 0))]) ++ ((b12n, .cells (encId ((readyOf s3).getD Nm.zero)).toArray 34 (0, 0)) :: (C ++ ((b, .cells [.map (some bo), .map (some bw), .map (some bt)].toArray 83 (0, 0)) :: (bo, ob3) :: (bw, ow3) :: (bt, ot3) :: L)))) (by haveI : DecidableEq (Nat × Obj) := fun _ _ => Classical.propDecidable _; rw [List.perm_iff_count]; intro a; simp only [List.count_append, List.count_cons, List.count_nil]; ac_rfl) ?_
              refine gk_drop (L' := ((b12n, .cells (encId ((readyOf s3).getD Nm.zero)).toArray 34 (0, 0)) :: (C ++ ((b, .cells [.map (some bo), .map (some bw), .map (some bt)].toArray 83 (0, 0)) :: (bo, ob3) :: (bw, ow3) :: (bt, ot3) :: L)))) (List.sublist_append_right _ _) ?_
              refine gk_round ⟨k', s3, out, ob3, ow3, ot3, C, vo, b12n⟩ ?_ ⟨hH3, rfl, hR3, hO, by simp only; omega, by simp only; omega, by simp only; omega, ?_⟩ sbs
              · show s3.wait.length < sx.wait.length
                omega
              · rw [← hset, hsn, if_neg hd3, hs3])
        ·have hd3 : ¬ q'.depth = depthOf sx q'.preds := of_decide_eq_false hcR21
         obtain ⟨rfl, rfl⟩ := hpt2 hd3
         have hR3 := hRd
         obtain ⟨s3, hs3⟩ : ∃ s3 : DSet, (⟨sx.ops, sx.wait.filter fun p => !(p.1 == n)⟩ : DSet) = s3 := ⟨_, rfl⟩
         have h3l : s3.ops.length = sx.ops.length ∧ s3.wait.length < sx.wait.length := by rw [← hs3]; exact ⟨rfl, hfl⟩
         rw [hs3] at hR3
         refine gc_skip ?_
         refine gk_inBlock ?_
         refine gk_then ?_
         refine gc_seq ?_
         refine gc_seq (gc_seqr [(.mv, 0)] rfl ?_)
         refine gr_rd rfl rfl rfl (rd_loadA Tryd.ta34 rfl (Cells.own (l := encId n) (T := 34) (z := (0, 0)) (by simp [baseL])) (Seg.all _) (encId_length _)) ?_
         refine gr_nil (gk_then ?_)
         refine gc_seqr [(.nm, 0), (.nm, 1)] rfl ?_
         refine gr_nx rfl rfl rfl (nx_alloc Tryd.zeroValue34 rfl) ?_; rintro _ _ _ _ ⟨b12n, rfl, rfl, rfl⟩; refine ⟨trivial, ?_⟩
         refine gr_nx0 rfl rfl (nx_store (vs := encId n) Tryd.sizeOf34 rfl rfl rfl (encId_length _) upd (by simp) (encId_ones _)) ?_; rintro _ _ _ _ ⟨rfl, rfl, rfl⟩; refine ⟨trivial, ?_⟩
         rw [wr_all (by simp)]
         refine gr_nil (gk_then ?_)
         refine gc_seqr [(.mv, 0), (.nm, 1), (.mv, 2), (.mv, 3), (.mv, 4), (.nm, 5), (.mv, 6)] rfl ?_
         refine gm rfl rfl rfl rfl ?_
         first
           | refine gr_perm (L' := ((b, .cells [.map (some bo), .map (some bw), .map (some bt)].toArray 83 (0, 0)) :: (bo, ob3) :: (bw, ow3) :: (bt, ot3) :: ((b12n, .cells (encId n).toArray 34 (0, 0)) :: (b97, .cells (encId n).toArray 34 (0, 0)) :: (b14, .cells (encOp q' pq).toArray 38 (0, 0)) :: (b12', .cells (encId n).toArray 34 (0, 0)) :: (C3 ++ L)))) (by haveI : DecidableEq (Nat × Obj) := fun _ _ => Classical.propDecidable _; rw [List.perm_iff_count]; intro a; simp only [List.count_append, List.count_cons, List.count_nil]; ac_rfl) ?_
           | refine gr_perm (L' := ((b, .cells [.map (some bo), .map (some bw), .map (some bt)].toArray 83 (0, 0)) :: (bo, ob3) :: (bw, ow3) :: (bt, ot3) :: ((b12n, .cells (encId n).toArray 34 (0, 0)) :: (b14, .cells (encOp q' pq).toArray 38 (0, 0)) :: (b12', .cells (encId n).toArray 34 (0, 0)) :: (C ++ L)))) (by haveI : DecidableEq (Nat × Obj) := fun _ _ => Classical.propDecidable _; rw [List.perm_iff_count]; intro a; simp only [List.count_append, List.count_cons, List.count_nil]; ac_rfl) ?_
         refine gr_nx rfl rfl rfl (nx_call Tryd.en47 rfl (ready_cc _ _ hR3 (by omega))) ?_; rintro v77 H' L' hle ⟨rfl, rfl, rfl⟩; refine ⟨trivial, ?_⟩
         refine gm rfl rfl rfl rfl ?_
         refine gr_rd rfl rfl rfl (rd_extract rfl rfl) ?_
         refine gr_rd rfl rfl rfl (rd_extract rfl rfl) ?_
         refine gr_nx0 rfl rfl (nx_store (vs := encId ((readyOf s3).getD Nm.zero)) Tryd.sizeOf34 rfl rfl rfl (encId_length _) upd (by simp) (encId_ones _)) ?_; rintro _ _ _ _ ⟨rfl, rfl, rfl⟩; refine ⟨trivial, ?_⟩
         rw [wr_all (by simp)]
         refine ga rfl rfl rfl rfl ?_
         refine gr_nil ?_
         first
           | (refine gk_perm (L' := ([(b97, .cells (encId n).toArray 34 (0, 0)), (b14, .cells (encOp q' pq).toArray 38 (0, 0)), (b12', .cells (encId n).toArray 34 (0, 0))]) ++ ((b12n, .cells (encId ((readyOf s3).getD Nm.zero)).toArray 34 (0, 0)) :: (C3 ++ ((b, .cells [.map (some bo), .map (some bw), .map (some bt)].toArray 83 (0, 0)) :: (bo, ob3) :: (bw, ow3) :: (bt, ot3) :: L)))) (by haveI : DecidableEq (Nat × Obj) := fun _ _ => Classical.propDecidable _; rw [List.perm_iff_count]; intro a; simp only [List.count_append, List.count_cons, List.count_nil]; ac_rfl) ?_
              refine gk_drop (L' := ((b12n, .cells (encId ((readyOf s3).getD Nm.zero)).toArray 34 (0, 0)) :: (C3 ++ ((b, .cells [.map (some bo), .map (some bw), .map (some bt)].toArray 83 (0, 0)) :: (bo, ob3) :: (bw, ow3) :: (bt, ot3) :: L)))) (List.sublist_append_right _ _) ?_
              refine gk_round ⟨k', s3, out ++ [n], ob3, ow3, ot3, C3, v98, b12n⟩ ?_ ⟨hH3, rfl, hR3, by simpa using hO3, by simp only; omega, by simp only [List.length_append, List.length_cons, List.length_nil]; omega, by simp only; omega, ?_⟩ sbs
              · show s3.wait.length < sx.wait.length
                omega
              · rw [← hset, hsn, if_pos hd3, hs3])
           | (refine gk_perm (L' := ([(b14, .cells (encOp q' pq).toArray 38 (0, 0)), (b12', .cells (encId n).toArray 34 (0, 0))]) ++ ((b12n, .cells (encId ((readyOf s3).getD Nm.zero)).toArray 34 (0, 0)) :: (C ++ ((b, .cells [.map (some bo), .map (some bw), .map (some bt)].toArray 83 (0, 0)) :: (bo, ob3) :: (bw, ow3) :: (bt, ot3) :: L)))) (by haveI : DecidableEq (Nat × Obj) := fun _ _ => Classical.propDecidable _; rw [List.perm_iff_count]; intro a; simp only [List.count_append, List.count_cons, List.count_nil]; ac_rfl) ?_
              refine gk_drop (L' := ((b12n, .cells (encId ((readyOf s3).getD Nm.zero)).toArray 34 (0, 0)) :: (C ++ ((b, .cells [.map (some bo), .map (some bw), .map (some bt)].toArray 83 (0, 0)) :: (bo, ob3) :: (bw, ow3) :: (bt, ot3) :: L)))) (List.sublist_append_right _ _) ?_
              refine gk_round ⟨k', s3, out, ob3, ow3, ot3, C, vo, b12n⟩ ?_ ⟨hH3, rfl, hR3, hO, by simp only; omega, by simp only; omega, by simp only; omega, ?_⟩ sbs
              · show s3.wait.length < sx.wait.length
                omega
              · rw [← hset, hsn, if_neg hd3, hs3])
       ·have hn : readyOf sx = none := by simpa using hcR17
        have hfin := settle_done (k := k) (out := out) hRx.ndw hn
        rw [hfin] at hset
        rw [← hset] at ht
        refine gc_exit ?_
        refine gk_exit_then ?_
        refine gk_exit_then ?_
        refine gk_here ?_
        refine gk_then ?_
        refine gc_seq (gc_seqr [(.mv, 0), (.mv, 1), (.mv, 2)] rfl ?_)
        refine gm rfl rfl rfl rfl ?_
        refine ga rfl rfl rfl rfl ?_
        refine ga rfl rfl rfl rfl ?_
        refine gr_nil (gk_then ?_)
        refine gc_ret ?_
        refine gk_drop (L' := C ++ ((b, .cells [.map (some bo), .map (some bw), .map (some bt)].toArray 83 (0, 0)) :: (bo, ob2) :: (bw, ow2) :: (bt, ot2) :: L)) sba ?_
        refine gk_result (L' := C ++ ((b, .cells [.map (some bo), .map (some bw), .map (some bt)].toArray 83 (0, 0)) :: (bo, ob2) :: (bw, ow2) :: (bt, ot2) :: L)) (.inl rfl) _ (res2 rfl rfl rfl) (List.Sublist.refl _) gle ?_
        exact ⟨ob2, ow2, ot2, C, vo, by rw [ht]; exact hRx, by rw [ht]; exact hO, by rw [ht], rfl⟩
end Go.Proofs.YtfhldfjknagidaaDoor

/-
  Walks: the program's set answers; a nil set.
-/
set_option linter.unusedSimpArgs false
set_option linter.unusedVariables false
set_option linter.unnecessarySimpa false
set_option linter.all false
namespace Go.Proofs.YtfhldfjknagidaaDoor
open Go.VK Go.Tr
set_option maxRecDepth 20000
attribute [local irreducible] Go.Tr.sha
theorem rising_filter (p : Nm → Bool) (l : List Nm) : (rising l).filter p = rising (l.filter p) :=
  sorted_eq (((rising_perm l).filter p).trans (rising_perm _).symm) ((rising_sorted l).sublist List.filter_sublist) (rising_sorted _)
theorem heads_names (s : DSet) : heads s = (names s).filter fun n => !behind s n := by rw [heads, names, rising_filter]
theorem cnt_zero (s : DSet) (n : Nm) : (((cnt s.ops n : Nat) : Int) == 0) = !behind s n := by
  rw [behind_cnt]
  by_cases h : 0 < cnt s.ops n
  · rw [decide_eq_true h]; simp; omega
  · rw [decide_eq_false h]; simp; omega

set_option maxHeartbeats 1000000 in
theorem get_cc (H : Gh) (L : Chunks) {b bo bw bt : Nat} {s : DSet} {ob ow ot : Obj} (hV : DView H L b bo bw bt s ob ow ot) (hsm : ∀ p ∈ s.ops, p.2.preds.length ≤ 32) (n : Nm) :
    CC Tryd.prog 15 #[pt b 0, ag (encId n)] H L (fun v H' L' => ∃ C u, v = .tuple #[ag (encOp ((Tr.get s.ops n).getD zeroOp) u), i64 (if has s.ops n then 0 else 5)] ∧ Ow 34 32 C u ((Tr.get s.ops n).getD zeroOp).preds.length (((Tr.get s.ops n).getD zeroOp).preds.flatMap encId) ∧ H = H' ∧ C ++ L = L') := by
 obtain ⟨m, hM, hmn, hlk⟩ := look_op hV.ops
 have hmo := hV.mo
 refine cc_of Tryd.func15 rfl (Nat.le_of_ble_eq_true rfl) ?_
 simp only [Tryd.ntmps15]
 refine gc_seq (gc_seqr [(.nm, 0), (.nm, 1), (.mv, 2)] rfl ?_)
 refine gr_nx rfl rfl rfl (nx_box rfl rfl) ?_; rintro _ _ _ _ ⟨b3, rfl, rfl, rfl⟩; refine ⟨trivial, ?_⟩
 refine gr_nx rfl rfl rfl (nx_alloc Tryd.zeroValue38 rfl) ?_; rintro _ _ _ _ ⟨b4, rfl, rfl, rfl⟩; refine ⟨trivial, ?_⟩
 refine ga rfl rfl rfl rfl ?_
 refine gr_nil (gk_then ?_)
 refine gc_seq ?_
 refine gc_seq (gc_seqr [(.mv, 0), (.mv, 1)] rfl ?_)
 refine gm rfl rfl rfl rfl ?_
 refine gr_rd rfl rfl rfl (rd_ptrNil Tryd.underlying27 rfl rfl) ?_
 refine gr_nil (gk_then ?_)
 refine gc_no rfl ?_
 refine gc_skip ?_
 refine gk_then ?_
 refine gc_seq ?_
 refine gc_draw Tryd.mixed [(.mv, 0), (.mv, 1), (.mv, 2), (.mv, 3), (.mv, 4), (.mv, 5), (.mv, 6), (.mv, 7), (.mv, 8), (.nm, 9), (.nm, 10), (.mv, 11)] (by decide +kernel) _ (List.Sublist.refl _) ?_
 refine gm rfl rfl rfl rfl ?_
 refine gr_rd rfl rfl rfl (rd_nilCheck rfl) ?_
 refine gr_rd rfl rfl rfl (rd_fieldAddr Tryd.fa83_0 rfl) ?_
 refine gr_rd rfl rfl rfl (rd_load1 Tryd.to80 rfl (hV.cells.mono (Gh.le_refl _) (by intro x hx; simp [baseL, hx])) rfl) ?_
 refine gr_rd rfl rfl rfl (rd_loadA Tryd.ta34 rfl (Cells.own (l := encId n) (T := 34) (z := (0, 0)) (by simp [baseL])) (Seg.all _) (encId_length _)) ?_
 refine gr_rd rfl rfl rfl (rd_lookupOk Tryd.tm Tryd.zop rfl rfl (by simp [baseL, hmo]) hM) ?_
 obtain ⟨q, pq, hq1, hq2, hq3, hq4⟩ := hlk n
 rw [hq1, hq2]
 have hgq : ((Tr.get s.ops n).getD zeroOp) = q := by
   rcases hq4 with h | ⟨h, h2, _⟩
   · rw [h]; rfl
   · rw [h, h2]; rfl
 have hql : q.preds.length ≤ 32 := by
   rcases hq4 with h | ⟨h, h2, _⟩
   · exact hsm _ (get_mem h)
   · rw [h2]; exact Nat.zero_le _
 refine gm rfl rfl rfl rfl ?_
 refine gr_rd rfl rfl rfl (rd_extract rfl rfl) ?_
 refine gr_rd rfl rfl rfl (rd_extract rfl rfl) ?_
 refine gr_nx rfl rfl rfl (nx_alloc Tryd.zeroValue38 rfl) ?_; rintro _ _ _ _ ⟨b6, rfl, rfl, rfl⟩; refine ⟨kp, ?_⟩
 refine gr_nx0 rfl rfl (nx_store (vs := encOp q pq) Tryd.sizeOf38 rfl rfl rfl (encOp_length _ _) upd (by simp) (encOp_ones _ hq3.one)) ?_; rintro _ _ _ _ ⟨rfl, rfl, rfl⟩; refine ⟨kp, ?_⟩
 rw [wr_all (by simp)]
 refine ga rfl rfl rfl rfl ?_
 refine gr_nil (gk_then ?_)
 refine gc_seq ?_
 refine gc_seq (gc_seqr [(.mv, 0), (.mv, 1)] rfl ?_)
 refine gm rfl rfl rfl rfl ?_
 refine gr_rd rfl rfl rfl (rd_not rfl) ?_
 refine gr_nil (gk_then ?_)
 refine gc_cond rfl (fun hcR4 => ?_) (fun hcR4 => ?_)
 ·have hh : has s.ops n = false := by simpa using hcR4
  have hqz : q = zeroOp := by
    rcases hq4 with h | ⟨h, h2, _⟩
    · have h3 := get_isSome (l := s.ops) (n := n)
      rw [h, hh] at h3; cases h3
    · exact h2
  refine gc_seq (gc_seqr [(.mv, 0), (.nm, 1), (.mv, 2)] rfl ?_)
  refine gr_rd rfl rfl rfl (rd_build Tryd.bt38 (ps := []) (l := encOp zeroOp nilS) rfl rfl) ?_
  refine gr_nx0 rfl rfl (nx_store (vs := encOp zeroOp nilS) Tryd.sizeOf38 rfl rfl rfl (encOp_length _ _) upd (by simp) (encOp_ones _ rfl)) ?_; rintro _ _ _ _ ⟨rfl, rfl, rfl⟩; refine ⟨trivial, ?_⟩
  rw [wr_all (by simp)]
  refine ga rfl rfl rfl rfl ?_
  refine gr_nil (gk_then ?_)
  refine gc_ret ?_
  refine gk_ret_then ?_
  refine gk_result (L' := [] ++ L) (.inl rfl) _ (resC2 rfl rfl Tryd.ta38 (Cells.own (l := encOp zeroOp nilS) (T := 38) (z := (0, 0)) (by simp )) (Seg.all _) (encOp_length _ _) rfl) sba (Gh.le_refl _) ?_
  exact ⟨[], nilS, by rw [hgq, hqz, hh]; rfl, by rw [hgq, hqz]; exact Ow.nil, rfl, rfl⟩
 ·have hh : has s.ops n = true := by simpa using hcR4
  refine gc_skip ?_
  refine gk_then ?_
  refine gc_seq (gc_seqr [(.mv, 0), (.nm, 1), (.nm, 2), (.mv, 3)] rfl ?_)
  refine gr_rd rfl rfl rfl (rd_loadA Tryd.ta38 rfl (Cells.own (l := encOp q pq) (T := 38) (z := (0, 0)) (by simp [baseL])) (Seg.all _) (encOp_length _ _)) ?_
  refine gr_nx rfl rfl rfl (nx_call Tryd.en45 rfl (clone_cc _ _ q pq hq3.any (by omega))) ?_; rintro v24 H' L' hle ⟨C, u, rfl, hO, rfl, rfl⟩; refine ⟨trivial, ?_⟩
  refine gr_nx0 rfl rfl (nx_store (vs := encOp q u) Tryd.sizeOf38 rfl rfl rfl (encOp_length _ _) upd (by simp) (encOp_ones _ hO.one)) ?_; rintro _ _ _ _ ⟨rfl, rfl, rfl⟩; refine ⟨trivial, ?_⟩
  rw [wr_all (by simp)]
  refine ga rfl rfl rfl rfl ?_
  refine gr_nil (gk_then ?_)
  refine gc_ret ?_
  refine gk_result (L' := C ++ L) (.inl rfl) _ (resC2 rfl rfl Tryd.ta38 (Cells.own (l := encOp q u) (T := 38) (z := (0, 0)) (by simp )) (Seg.all _) (encOp_length _ _) rfl) sbl (Gh.le_refl _) ?_
  exact ⟨C, u, by rw [hgq, hh]; rfl, by rw [hgq]; exact hO, rfl, rfl⟩
set_option maxHeartbeats 1000000 in
theorem heads_cc (H : Gh) (L : Chunks) {b bo bw bt : Nat} {s : DSet} {ob ow ot : Obj} (hR : DRep H s ob ow ot) (hz : s.ops.length < 16777216) :
    CC Tryd.prog 21 #[pt b 0] H ((b, .cells [.map (some bo), .map (some bw), .map (some bt)].toArray 83 (0, 0)) :: (bo, ob) :: (bw, ow) :: (bt, ot) :: L) (fun u H' L' => ∃ C, Ow 34 32 C u (heads s).length ((heads s).flatMap encId) ∧ H = H' ∧ C ++ ((b, .cells [.map (some bo), .map (some bw), .map (some bt)].toArray 83 (0, 0)) :: (bo, ob) :: (bw, ow) :: (bt, ot) :: L) = L') := by
 have hnl : (names s).length = s.ops.length := by rw [names, rising_length, List.length_map]
 obtain ⟨mt, hMt, hct⟩ := hR.cnt
 refine cc_of Tryd.func21 rfl (Nat.le_of_ble_eq_true rfl) ?_
 simp only [Tryd.ntmps21]
 refine gc_seq (gc_seqr [(.mv, 0)] rfl ?_)
 refine ga rfl rfl rfl rfl ?_
 refine gr_nil (gk_then ?_)
 refine gc_seq (gc_seqr [(.mv, 0)] rfl ?_)
 refine ga rfl rfl rfl rfl ?_
 refine gr_nil (gk_then ?_)
 refine gc_seq ?_
 refine gc_seq (gc_seqr [(.mv, 0), (.nm, 1), (.mv, 2), (.mv, 3)] rfl ?_)
 refine gm rfl rfl rfl rfl ?_
 refine gr_nx rfl rfl rfl (nx_call Tryd.en14 rfl (names_cc _ _ hR hz)) ?_; rintro v7 H' L' hle ⟨Cn, hOn, rfl, rfl⟩; refine ⟨trivial, ?_⟩
 obtain ⟨An, cn, rfl, hcn⟩ := hOn.slice
 obtain ⟨_, bn, on, cn2, ln, hne, hcn2, hnn, hn0, hn1, hn2⟩ := (Ow.slT (H := H) (L := Cn ++ ((b, .cells [.map (some bo), .map (some bw), .map (some bt)].toArray 83 (0, 0)) :: (bo, ob) :: (bw, ow) :: (bt, ot) :: L)) (xs := names s) encId_length hOn rfl (by omega) (by intro x hx; simp [hx]))
 cases hne
 refine gr_rd rfl rfl rfl (rd_lenS Tryd.underlying29 rfl) ?_
 refine gm rfl rfl rfl rfl ?_
 refine gr_nil (gk_then ?_)
 refine gc_block ?_
 refine gc_loop (fun t : Nat × Value × Chunks => [(0, pt b 0), (3, t.2.1), (7, .slice An (names s).length cn), (8, i64 (names s).length), (9, i64 t.1)]) (fun t H1 L1 => H = H1 ∧ t.2.2 ++ (Cn ++ ((b, .cells [.map (some bo), .map (some bw), .map (some bt)].toArray 83 (0, 0)) :: (bo, ob) :: (bw, ow) :: (bt, ot) :: L)) = L1 ∧ t.1 ≤ (names s).length ∧ Ow 34 32 t.2.2 t.2.1 (((names s).take t.1).filter fun n => !behind s n).length ((((names s).take t.1).filter fun n => !behind s n).flatMap encId)) (fun t => (names s).length - t.1) ((0, nilS, [])) ?_ sbs ?_
 ·exact ⟨rfl, rfl, Nat.zero_le _, Ow.nil⟩
 ·rintro ⟨k, vo, C⟩ H1 L1 ⟨rfl, rfl, hk, hO⟩
  simp only at hk hO
  have hfl : (((names s).take k).filter fun n => !behind s n).length ≤ (names s).length := Nat.le_trans (List.length_filter_le _ _) (by simp; omega)
  show GC _ _ _ _ [(0, pt b 0), (3, vo), (7, .slice An (names s).length cn), (8, i64 (names s).length), (9, i64 k)] H (C ++ (Cn ++ ((b, .cells [.map (some bo), .map (some bw), .map (some bt)].toArray 83 (0, 0)) :: (bo, ob) :: (bw, ow) :: (bt, ot) :: L)))
  refine gc_seq (gc_seqr [(.mv, 0)] rfl ?_)
  refine gr_rd rfl rfl rfl (rd_lss rfl rfl) ?_
  refine gr_nil (gk_then ?_)
  refine gc_seq ?_
  refine gc_cond rfl (fun hc0 => ?_) (fun hc0 => ?_)
  ·have hlt : k < (names s).length := by simpa using hc0
   obtain ⟨hAe, hca, hsa⟩ := ids_at2 (i := (k : Int)) hn1 hn2 hlt rfl
   have hca1 : Cells H (C ++ (Cn ++ ((b, .cells [.map (some bo), .map (some bw), .map (some bt)].toArray 83 (0, 0)) :: (bo, ob) :: (bw, ow) :: (bt, ot) :: L))) bn ln := hca.mono (Gh.le_refl _) (fun x hx => List.mem_append_right _ hx)
   refine gc_skip ?_
   refine gk_then ?_
   refine gc_seq ?_
   refine gc_block ?_
   refine gc_seq (gc_seqr [(.mv, 0), (.mv, 1), (.nm, 2), (.nm, 3)] rfl ?_)
   refine gr_rd rfl rfl rfl (rd_indexS Tryd.underlying29 Tryd.sizeOf34 rfl rfl hAe (by omega) (by omega)) ?_
   refine gr_rd rfl rfl rfl (rd_loadA Tryd.ta34 rfl hca1 hsa (encId_length _)) ?_
   refine gr_nx rfl rfl rfl (nx_alloc Tryd.zeroValue34 rfl) ?_; rintro _ _ _ _ ⟨b5, rfl, rfl, rfl⟩; refine ⟨trivial, ?_⟩
   refine gr_nx0 rfl rfl (nx_store (vs := encId ((names s).getD k Nm.zero)) Tryd.sizeOf34 rfl rfl rfl (encId_length _) upd (by simp) (encId_ones _)) ?_; rintro _ _ _ _ ⟨rfl, rfl, rfl⟩; refine ⟨trivial, ?_⟩
   rw [wr_all (by simp)]
   refine gr_nil (gk_then ?_)
   refine gc_seq ?_
   refine gc_draw Tryd.mixed [(.mv, 0), (.mv, 1), (.mv, 2), (.mv, 3), (.mv, 4), (.mv, 5), (.mv, 6)] (by decide +kernel) _ (List.Sublist.refl _) ?_
   refine gm rfl rfl rfl rfl ?_
   refine gr_rd rfl rfl rfl (rd_nilCheck rfl) ?_
   refine gr_rd rfl rfl rfl (rd_fieldAddr Tryd.fa83_2 rfl) ?_
   refine gr_rd rfl rfl rfl (rd_load1 Tryd.to81 rfl (Cells.own (l := [.map (some bo), .map (some bw), .map (some bt)]) (T := 83) (z := (0, 0)) (by simp [baseL])) rfl) ?_
   refine gr_rd rfl rfl rfl (rd_loadA Tryd.ta34 rfl (Cells.own (l := encId ((names s).getD k Nm.zero)) (T := 34) (z := (0, 0)) (by simp [baseL])) (Seg.all _) (encId_length _)) ?_
   refine gr_rd rfl rfl rfl (rd_lookup Tryd.tmi Tryd.zint rfl rfl (by simp [baseL]) hMt) ?_
   rw [hct]
   refine gr_rd rfl rfl rfl (rd_eql rfl rfl) ?_
   refine gr_nil (gk_then ?_)
   refine gc_cond rfl (fun hcR5 => ?_) (fun hcR5 => ?_)
   ·skip
    refine gc_seqr [(.mv, 0), (.mv, 1), (.nm, 2), (.nm, 3), (.mv, 4)] rfl ?_
    refine gm rfl rfl rfl rfl ?_
    refine gr_rd rfl rfl rfl (rd_loadA Tryd.ta34 rfl (Cells.own (l := encId ((names s).getD k Nm.zero)) (T := 34) (z := (0, 0)) (by simp [baseL])) (Seg.all _) (encId_length _)) ?_
    refine gr_nx rfl rfl rfl (nx_sliceA1 Tryd.underlying29 Tryd.sizeOf34 Tryd.zeroValue34 rfl rfl rfl lnk rfl) ?_; rintro _ _ _ _ ⟨b22, rfl, rfl, rfl⟩; refine ⟨trivial, ?_⟩
    refine gr_nx rfl rfl rfl (nx_append (m := 1) Tryd.app29_29 rfl rfl hO pik (src_slice (b := b22) (o := 0) (l := encId ((names s).getD k Nm.zero)) (m := 1) (by simp) (encId_ones _) (fun h => by cases h) (fun _ _ => ⟨rfl, Cells.own List.mem_cons_self, Seg.all _⟩)) (by omega) (by omega)) ?_; rintro v23 H' L' hle ⟨C2, hO2, _, rfl, rfl⟩; refine ⟨trivial, ?_⟩
    refine ga rfl rfl rfl rfl ?_
    refine gr_nil ?_
    refine gk_inBlock ?_
    refine gk_then ?_
    refine gc_seqr [(.mv, 0), (.mv, 1)] rfl ?_
    (first | refine gr_rd rfl rfl rfl (rd_add rfl rfl (IntWalk.i64_in _ (by omega))) ?_ | refine gr_rd rfl rfl rfl (rd_add rfl rfl rfl) ?_)
    refine gm rfl rfl rfl rfl ?_
    refine gr_nil ?_
    first
      | (refine gk_drop (L' := C2 ++ (Cn ++ ((b, .cells [.map (some bo), .map (some bw), .map (some bt)].toArray 83 (0, 0)) :: (bo, ob) :: (bw, ow) :: (bt, ot) :: L))) (by repeat (first | exact List.Sublist.refl _ | apply List.Sublist.append (List.Sublist.refl _) | apply List.Sublist.cons)) ?_
         refine gk_round (k + 1, _, C2) ?_ ?_ sbs
         · show (names s).length - (k + 1) < (names s).length - k
           omega
         · refine ⟨rfl, rfl, by simp only; omega, ?_⟩
           simp only
           rw [filter_take _ hlt, if_pos (by rw [← cnt_zero]; exact hcR5)]
           simpa using hO2)
      | (refine gk_drop (L' := C ++ (Cn ++ ((b, .cells [.map (some bo), .map (some bw), .map (some bt)].toArray 83 (0, 0)) :: (bo, ob) :: (bw, ow) :: (bt, ot) :: L))) (by repeat (first | exact List.Sublist.refl _ | apply List.Sublist.append (List.Sublist.refl _) | apply List.Sublist.cons)) ?_
         refine gk_round (k + 1, _, C) ?_ ?_ sbs
         · show (names s).length - (k + 1) < (names s).length - k
           omega
         · refine ⟨rfl, rfl, by simp only; omega, ?_⟩
           simp only
           rw [filter_take _ hlt, if_neg (by rw [← cnt_zero, hcR5]; decide), List.append_nil]
           exact hO)
   ·skip
    refine gc_skip ?_
    refine gk_inBlock ?_
    refine gk_then ?_
    refine gc_seqr [(.mv, 0), (.mv, 1)] rfl ?_
    (first | refine gr_rd rfl rfl rfl (rd_add rfl rfl (IntWalk.i64_in _ (by omega))) ?_ | refine gr_rd rfl rfl rfl (rd_add rfl rfl rfl) ?_)
    refine gm rfl rfl rfl rfl ?_
    refine gr_nil ?_
    first
      | (refine gk_drop (L' := C2 ++ (Cn ++ ((b, .cells [.map (some bo), .map (some bw), .map (some bt)].toArray 83 (0, 0)) :: (bo, ob) :: (bw, ow) :: (bt, ot) :: L))) (by repeat (first | exact List.Sublist.refl _ | apply List.Sublist.append (List.Sublist.refl _) | apply List.Sublist.cons)) ?_
         refine gk_round (k + 1, _, C2) ?_ ?_ sbs
         · show (names s).length - (k + 1) < (names s).length - k
           omega
         · refine ⟨rfl, rfl, by simp only; omega, ?_⟩
           simp only
           rw [filter_take _ hlt, if_pos (by rw [← cnt_zero]; exact hcR5)]
           simpa using hO2)
      | (refine gk_drop (L' := C ++ (Cn ++ ((b, .cells [.map (some bo), .map (some bw), .map (some bt)].toArray 83 (0, 0)) :: (bo, ob) :: (bw, ow) :: (bt, ot) :: L))) (by repeat (first | exact List.Sublist.refl _ | apply List.Sublist.append (List.Sublist.refl _) | apply List.Sublist.cons)) ?_
         refine gk_round (k + 1, _, C) ?_ ?_ sbs
         · show (names s).length - (k + 1) < (names s).length - k
           omega
         · refine ⟨rfl, rfl, by simp only; omega, ?_⟩
           simp only
           rw [filter_take _ hlt, if_neg (by rw [← cnt_zero, hcR5]; decide), List.append_nil]
           exact hO)
  ·have hge : k = (names s).length := by simp at hc0; omega
   subst hge
   rw [List.take_length, ← heads_names] at hO
   refine gc_exit ?_
   refine gk_exit_then ?_
   refine gk_exit_then ?_
   refine gk_here ?_
   refine gk_then ?_
   refine gc_seq (gc_seqr [(.mv, 0), (.mv, 1)] rfl ?_)
   refine gm rfl rfl rfl rfl ?_
   refine ga rfl rfl rfl rfl ?_
   refine gr_nil (gk_then ?_)
   refine gc_ret ?_
   refine gk_result (L' := C ++ ((b, .cells [.map (some bo), .map (some bw), .map (some bt)].toArray 83 (0, 0)) :: (bo, ob) :: (bw, ow) :: (bt, ot) :: L)) (.inl rfl) _ (res1 rfl rfl) (List.Sublist.append (List.Sublist.refl _) (List.sublist_append_right _ _)) (Gh.le_refl _) ?_
   exact ⟨C, hO, rfl, rfl⟩
set_option maxHeartbeats 1000000 in
theorem next_cc (H : Gh) (L : Chunks) {b bo bw bt : Nat} {s : DSet} {ob ow ot : Obj} (hR : DRep H s ob ow ot) (hz : s.ops.length < 16777216) (author : Int) (d : Draft) :
    CC Tryd.prog 26 #[pt b 0, i64 author, ag (encDraft d)] H ((b, .cells [.map (some bo), .map (some bw), .map (some bt)].toArray 83 (0, 0)) :: (bo, ob) :: (bw, ow) :: (bt, ot) :: L) (fun v H' L' => ∃ C pv, v = .tuple #[ag (encOp (next s author d).1 pv), i64 (next s author d).2] ∧ Ow 34 32 C pv (next s author d).1.preds.length ((next s author d).1.preds.flatMap encId) ∧ H = H' ∧ C ++ ((b, .cells [.map (some bo), .map (some bw), .map (some bt)].toArray 83 (0, 0)) :: (bo, ob) :: (bw, ow) :: (bt, ot) :: L) = L') := by
 have hhl := heads_le s
 refine cc_of Tryd.func26 rfl (Nat.le_of_ble_eq_true rfl) ?_
 simp only [Tryd.ntmps26]
 refine gc_seq (gc_seqr [(.nm, 0), (.nm, 1), (.mv, 2)] rfl ?_)
 refine gr_nx rfl rfl rfl (nx_box rfl rfl) ?_; rintro _ _ _ _ ⟨b5, rfl, rfl, rfl⟩; refine ⟨trivial, ?_⟩
 refine gr_nx rfl rfl rfl (nx_alloc Tryd.zeroValue38 rfl) ?_; rintro _ _ _ _ ⟨b6, rfl, rfl, rfl⟩; refine ⟨trivial, ?_⟩
 refine ga rfl rfl rfl rfl ?_
 refine gr_nil (gk_then ?_)
 refine gc_seq ?_
 refine gc_seq (gc_seqr [(.mv, 0), (.mv, 1)] rfl ?_)
 refine gm rfl rfl rfl rfl ?_
 refine gr_rd rfl rfl rfl (rd_ptrNil Tryd.underlying27 rfl rfl) ?_
 refine gr_nil (gk_then ?_)
 refine gc_no rfl ?_
 refine gc_skip ?_
 refine gk_then ?_
 refine gc_seq (gc_seqr [(.mv, 0), (.nm, 1), (.mv, 2)] rfl ?_)
 refine gm rfl rfl rfl rfl ?_
 refine gr_perm (L' := ((b, .cells [.map (some bo), .map (some bw), .map (some bt)].toArray 83 (0, 0)) :: (bo, ob) :: (bw, ow) :: (bt, ot) :: ((b6, .cells (encOp zeroOp nilS).toArray 38 (0, 0)) :: (b5, .cells (encDraft d).toArray 36 (0, 0)) :: L))) (by haveI : DecidableEq (Nat × Obj) := fun _ _ => Classical.propDecidable _; rw [List.perm_iff_count]; intro a; simp only [List.count_append, List.count_cons, List.count_nil]; ac_rfl) ?_
 refine gr_nx rfl rfl rfl (nx_call Tryd.en21 rfl (heads_cc _ _ hR hz)) ?_; rintro v14 H' L' hle ⟨C, hC, rfl, rfl⟩; refine ⟨trivial, ?_⟩
 obtain ⟨ah, ch, rfl, hch⟩ := hC.slice
 refine ga rfl rfl rfl rfl ?_
 refine gr_nil (gk_then ?_)
 refine gc_seq (gc_seqr [(.mv, 0), (.mv, 1), (.mv, 2), (.mv, 3), (.nm, 4), (.nm, 5)] rfl ?_)
 refine gr_rd rfl rfl rfl (rd_loadA Tryd.ta36 rfl (Cells.own (l := encDraft d) (T := 36) (z := (0, 0)) (by simp [baseL])) (Seg.all _) (encDraft_length _)) ?_
 refine gm rfl rfl rfl rfl ?_
 refine gm rfl rfl rfl rfl ?_
 refine gr_rd rfl rfl rfl (rd_build Tryd.bt38 (ps := [(0, ag (encDraft d)), (1, i64 author), (3, .slice ah (heads s).length ch)]) rfl (fill_op3 (ps := heads s) rfl)) ?_
 refine gr_nx rfl rfl rfl (nx_alloc Tryd.zeroValue38 rfl) ?_; rintro _ _ _ _ ⟨b9, rfl, rfl, rfl⟩; refine ⟨trivial, ?_⟩
 refine gr_nx0 rfl rfl (nx_store (vs := encOp ⟨d, author, 0, heads s⟩ (.slice ah (heads s).length ch)) Tryd.sizeOf38 rfl rfl rfl (encOp_length _ _) upd (by simp) (encOp_ones _ rfl)) ?_; rintro _ _ _ _ ⟨rfl, rfl, rfl⟩; refine ⟨trivial, ?_⟩
 rw [wr_all (by simp)]
 refine gr_nil (gk_then ?_)
 refine gc_seq (gc_seqr [(.mv, 0), (.mv, 1), (.nm, 2), (.mv, 3), (.nm, 4)] rfl ?_)
 refine gm rfl rfl rfl rfl ?_
 refine gr_rd rfl rfl rfl (rd_loadA Tryd.ta38 rfl (Cells.own (l := encOp ⟨d, author, 0, heads s⟩ (.slice ah (heads s).length ch)) (T := 38) (z := (0, 0)) (by simp [baseL])) (Seg.all _) (encOp_length _ _)) ?_
 refine gr_nx rfl rfl rfl (nx_call Tryd.en60 rfl (depth_cc _ _ (bo := bo) (bw := bw) (bt := bt) (ob := ob) (ow := ow) (ot := ot) ⟨(Cells.own (l := [.map (some bo), .map (some bw), .map (some bt)]) (T := 83) (z := (0, 0)) (by simp )), by simp, by simp, by simp, hR.ops, hR.wait, hR.cnt⟩ ⟨d, author, 0, heads s⟩ _ (Ow.slT encId_length hC rfl (by omega) (by intro x hx; simp [hx])))) ?_; rintro v21 H' L' hle ⟨rfl, rfl, rfl⟩; refine ⟨trivial, ?_⟩
 refine gr_rd rfl rfl rfl (rd_fieldAddr Tryd.fa38_2 rfl) ?_
 refine gr_nx0 rfl rfl (nx_store (vs := [i64 (depthOf s (heads s))]) Tryd.sizeOf3 rfl rfl rfl (rfl) upd (by simp) (oneCells_of_all rfl)) ?_; rintro _ _ _ _ ⟨rfl, rfl, rfl⟩; refine ⟨trivial, ?_⟩
 rw [encOp_set_depth]
 refine gr_nil (gk_then ?_)
 refine gc_seq ?_
 refine gc_block ?_
 refine gc_seq (gc_seqr [(.mv, 0), (.nm, 1), (.mv, 2), (.mv, 3), (.mv, 4), (.mv, 5), (.mv, 6), (.mv, 7), (.mv, 8), (.mv, 9), (.mv, 10), (.mv, 11)] rfl ?_)
 refine gr_rd rfl rfl rfl (rd_loadA Tryd.ta36 rfl (Cells.own (l := encDraft d) (T := 36) (z := (0, 0)) (by simp [baseL])) (Seg.all _) (encDraft_length _)) ?_
 refine gr_nx rfl rfl rfl (nx_call Tryd.en61 rfl (goodDraft_cc _ _ d)) ?_; rintro v25 H' L' hle ⟨rfl, rfl, rfl⟩; refine ⟨trivial, ?_⟩
 refine gr_rd rfl rfl rfl (rd_not rfl) ?_
 refine gm rfl rfl rfl rfl ?_
 refine gr_split rfl (fun hg3 => ?_) (fun hg3 => ?_)
 ·skip
  refine gr_no rfl rfl rfl ?_
  refine gr_no rfl rfl rfl ?_
  (first | refine gpt rfl rfl rfl rfl rfl ?_ | refine gpf rfl rfl rfl rfl rfl ?_)
  refine gm rfl rfl rfl rfl ?_
  refine gr_no rfl rfl rfl ?_
  refine gr_no rfl rfl rfl ?_
  (first | refine gpt rfl rfl rfl rfl rfl ?_ | refine gpf rfl rfl rfl rfl rfl ?_)
  refine ga rfl rfl rfl rfl ?_
  refine gr_nil (gk_then ?_)
  refine gc_yes rfl ?_
  have hn : next s author d = (zeroOp, 1) := by
    rw [next, if_pos]
    simp only [Bool.or_eq_true]
    first | exact .inl (.inl hg3) | exact .inl (.inr hg7) | (have := of_decide_eq_true hcR6; exact .inr (decide_eq_true (by omega)))
  refine gc_seq (gc_seqr [(.mv, 0), (.nm, 1), (.mv, 2)] rfl ?_)
  refine gr_rd rfl rfl rfl (rd_build Tryd.bt38 (ps := []) (l := encOp zeroOp nilS) rfl rfl) ?_
  refine gr_nx0 rfl rfl (nx_store (vs := encOp zeroOp nilS) Tryd.sizeOf38 rfl rfl rfl (encOp_length _ _) upd (by simp) (encOp_ones _ rfl)) ?_; rintro _ _ _ _ ⟨rfl, rfl, rfl⟩; refine ⟨trivial, ?_⟩
  rw [wr_all (by simp)]
  refine ga rfl rfl rfl rfl ?_
  refine gr_nil (gk_then ?_)
  refine gc_ret ?_
  refine gk_ret_inBlock ?_
  refine gk_ret_then ?_
  refine gk_result (L' := [] ++ ((b, .cells [.map (some bo), .map (some bw), .map (some bt)].toArray 83 (0, 0)) :: (bo, ob) :: (bw, ow) :: (bt, ot) :: L)) (.inl rfl) _ (resC2 rfl rfl Tryd.ta38 (Cells.own (l := encOp zeroOp nilS) (T := 38) (z := (0, 0)) (by simp )) (Seg.all _) (encOp_length _ _) rfl) sba (Gh.le_refl _) ?_
  exact ⟨[], nilS, by rw [hn], by rw [hn]; exact Ow.nil, rfl, rfl⟩
 ·skip
  refine gm rfl rfl rfl rfl ?_
  refine gr_rd rfl rfl rfl (rd_lss rfl rfl) ?_
  (first | refine gpt rfl rfl rfl rfl rfl ?_ | refine gpf rfl rfl rfl rfl rfl ?_)
  refine gm rfl rfl rfl rfl ?_
  refine gr_split rfl (fun hg7 => ?_) (fun hg7 => ?_)
  ·skip
   refine gr_no rfl rfl rfl ?_
   refine gr_no rfl rfl rfl ?_
   (first | refine gpt rfl rfl rfl rfl rfl ?_ | refine gpf rfl rfl rfl rfl rfl ?_)
   refine ga rfl rfl rfl rfl ?_
   refine gr_nil (gk_then ?_)
   refine gc_yes rfl ?_
   have hn : next s author d = (zeroOp, 1) := by
     rw [next, if_pos]
     simp only [Bool.or_eq_true]
     first | exact .inl (.inl hg3) | exact .inl (.inr hg7) | (have := of_decide_eq_true hcR6; exact .inr (decide_eq_true (by omega)))
   refine gc_seq (gc_seqr [(.mv, 0), (.nm, 1), (.mv, 2)] rfl ?_)
   refine gr_rd rfl rfl rfl (rd_build Tryd.bt38 (ps := []) (l := encOp zeroOp nilS) rfl rfl) ?_
   refine gr_nx0 rfl rfl (nx_store (vs := encOp zeroOp nilS) Tryd.sizeOf38 rfl rfl rfl (encOp_length _ _) upd (by simp) (encOp_ones _ rfl)) ?_; rintro _ _ _ _ ⟨rfl, rfl, rfl⟩; refine ⟨trivial, ?_⟩
   rw [wr_all (by simp)]
   refine ga rfl rfl rfl rfl ?_
   refine gr_nil (gk_then ?_)
   refine gc_ret ?_
   refine gk_ret_inBlock ?_
   refine gk_ret_then ?_
   refine gk_result (L' := [] ++ ((b, .cells [.map (some bo), .map (some bw), .map (some bt)].toArray 83 (0, 0)) :: (bo, ob) :: (bw, ow) :: (bt, ot) :: L)) (.inl rfl) _ (resC2 rfl rfl Tryd.ta38 (Cells.own (l := encOp zeroOp nilS) (T := 38) (z := (0, 0)) (by simp )) (Seg.all _) (encOp_length _ _) rfl) sba (Gh.le_refl _) ?_
   exact ⟨[], nilS, by rw [hn], by rw [hn]; exact Ow.nil, rfl, rfl⟩
  ·skip
   refine gm rfl rfl rfl rfl ?_
   refine gr_rd rfl rfl rfl (rd_geq rfl rfl) ?_
   (first | refine gpt rfl rfl rfl rfl rfl ?_ | refine gpf rfl rfl rfl rfl rfl ?_)
   refine ga rfl rfl rfl rfl ?_
   refine gr_nil (gk_then ?_)
   refine gc_cond rfl (fun hcR6 => ?_) (fun hcR6 => ?_)
   ·have hn : next s author d = (zeroOp, 1) := by
      rw [next, if_pos]
      simp only [Bool.or_eq_true]
      first | exact .inl (.inl hg3) | exact .inl (.inr hg7) | (have := of_decide_eq_true hcR6; exact .inr (decide_eq_true (by omega)))
    refine gc_seq (gc_seqr [(.mv, 0), (.nm, 1), (.mv, 2)] rfl ?_)
    refine gr_rd rfl rfl rfl (rd_build Tryd.bt38 (ps := []) (l := encOp zeroOp nilS) rfl rfl) ?_
    refine gr_nx0 rfl rfl (nx_store (vs := encOp zeroOp nilS) Tryd.sizeOf38 rfl rfl rfl (encOp_length _ _) upd (by simp) (encOp_ones _ rfl)) ?_; rintro _ _ _ _ ⟨rfl, rfl, rfl⟩; refine ⟨trivial, ?_⟩
    rw [wr_all (by simp)]
    refine ga rfl rfl rfl rfl ?_
    refine gr_nil (gk_then ?_)
    refine gc_ret ?_
    refine gk_ret_inBlock ?_
    refine gk_ret_then ?_
    refine gk_result (L' := [] ++ ((b, .cells [.map (some bo), .map (some bw), .map (some bt)].toArray 83 (0, 0)) :: (bo, ob) :: (bw, ow) :: (bt, ot) :: L)) (.inl rfl) _ (resC2 rfl rfl Tryd.ta38 (Cells.own (l := encOp zeroOp nilS) (T := 38) (z := (0, 0)) (by simp )) (Seg.all _) (encOp_length _ _) rfl) sba (Gh.le_refl _) ?_
    exact ⟨[], nilS, by rw [hn], by rw [hn]; exact Ow.nil, rfl, rfl⟩
   ·have h5 := of_decide_eq_false hcR6
    have hok : ¬ ((!goodDraft d || author < 0 || 4 < author) = true) := by
      simp only [Bool.or_eq_true, not_or, Bool.not_eq_true]; exact ⟨⟨hg3, hg7⟩, decide_eq_false (by omega)⟩
    refine gc_seq (gc_seqr [(.mv, 0), (.mv, 1), (.mv, 2), (.mv, 3)] rfl ?_)
    refine gm rfl rfl rfl rfl ?_
    refine gr_rd rfl rfl rfl (rd_lenS Tryd.underlying29 rfl) ?_
    refine gr_rd rfl rfl rfl (rd_gtr rfl rfl) ?_
    refine ga rfl rfl rfl rfl ?_
    refine gr_nil (gk_then ?_)
    refine gc_cond rfl (fun hcR8 => ?_) (fun hcR8 => ?_)
    ·have h32 := of_decide_eq_true hcR8
     have hn : next s author d = (zeroOp, 3) := by rw [next, if_neg hok, if_pos (by omega)]
     refine gc_seq (gc_seqr [(.mv, 0), (.nm, 1), (.mv, 2)] rfl ?_)
     refine gr_rd rfl rfl rfl (rd_build Tryd.bt38 (ps := []) (l := encOp zeroOp nilS) rfl rfl) ?_
     refine gr_nx0 rfl rfl (nx_store (vs := encOp zeroOp nilS) Tryd.sizeOf38 rfl rfl rfl (encOp_length _ _) upd (by simp) (encOp_ones _ rfl)) ?_; rintro _ _ _ _ ⟨rfl, rfl, rfl⟩; refine ⟨trivial, ?_⟩
     rw [wr_all (by simp)]
     refine ga rfl rfl rfl rfl ?_
     refine gr_nil (gk_then ?_)
     refine gc_ret ?_
     refine gk_ret_inBlock ?_
     refine gk_ret_then ?_
     refine gk_result (L' := [] ++ ((b, .cells [.map (some bo), .map (some bw), .map (some bt)].toArray 83 (0, 0)) :: (bo, ob) :: (bw, ow) :: (bt, ot) :: L)) (.inl rfl) _ (resC2 rfl rfl Tryd.ta38 (Cells.own (l := encOp zeroOp nilS) (T := 38) (z := (0, 0)) (by simp )) (Seg.all _) (encOp_length _ _) rfl) sba (Gh.le_refl _) ?_
     exact ⟨[], nilS, by rw [hn], by rw [hn]; exact Ow.nil, rfl, rfl⟩
    ·have h32 := of_decide_eq_false hcR8
     have hn : next s author d = (⟨d, author, depthOf s (heads s), heads s⟩, 0) := by rw [next, if_neg hok, if_neg (by omega)]
     refine gc_skip ?_
     refine gk_inBlock ?_
     refine gk_then ?_
     refine gc_seq (gc_seqr [(.mv, 0), (.nm, 1), (.mv, 2)] rfl ?_)
     refine gr_rd rfl rfl rfl (rd_loadA Tryd.ta38 rfl (Cells.own (l := encOp ⟨d, author, depthOf s (heads s), heads s⟩ (.slice ah (heads s).length ch)) (T := 38) (z := (0, 0)) (by simp [baseL])) (Seg.all _) (encOp_length _ _)) ?_
     refine gr_nx0 rfl rfl (nx_store (vs := encOp ⟨d, author, depthOf s (heads s), heads s⟩ (.slice ah (heads s).length ch)) Tryd.sizeOf38 rfl rfl rfl (encOp_length _ _) upd (by simp) (encOp_ones _ rfl)) ?_; rintro _ _ _ _ ⟨rfl, rfl, rfl⟩; refine ⟨trivial, ?_⟩
     rw [wr_all (by simp)]
     refine ga rfl rfl rfl rfl ?_
     refine gr_nil (gk_then ?_)
     refine gc_ret ?_
     refine gk_perm (L' := ([(b9, .cells (encOp ⟨d, author, depthOf s (heads s), heads s⟩ (.slice ah (heads s).length ch)).toArray 38 (0, 0)), (b6, .cells (encOp ⟨d, author, depthOf s (heads s), heads s⟩ (.slice ah (heads s).length ch)).toArray 38 (0, 0)), (b5, .cells (encDraft d).toArray 36 (0, 0))]) ++ (C ++ ((b, .cells [.map (some bo), .map (some bw), .map (some bt)].toArray 83 (0, 0)) :: (bo, ob) :: (bw, ow) :: (bt, ot) :: L))) (by haveI : DecidableEq (Nat × Obj) := fun _ _ => Classical.propDecidable _; rw [List.perm_iff_count]; intro a; simp only [List.count_append, List.count_cons, List.count_nil]; ac_rfl) ?_
     refine gk_result (L' := C ++ ((b, .cells [.map (some bo), .map (some bw), .map (some bt)].toArray 83 (0, 0)) :: (bo, ob) :: (bw, ow) :: (bt, ot) :: L)) (.inl rfl) _ (resC2 rfl rfl Tryd.ta38 (Cells.own (l := encOp ⟨d, author, depthOf s (heads s), heads s⟩ (.slice ah (heads s).length ch)) (T := 38) (z := (0, 0)) (by simp )) (Seg.all _) (encOp_length _ _) rfl) (List.sublist_append_right _ _) (Gh.le_refl _) ?_
     exact ⟨C, .slice ah (heads s).length ch, by rw [hn], by rw [hn]; exact hC, rfl, rfl⟩
theorem names_nil (H : Gh) (L : Chunks) : CC Tryd.prog 14 #[.pointer none] H L (fun v H' L' => v = nilS ∧ H = H' ∧ L = L') := by
 refine cc_of Tryd.func14 rfl (Nat.le_of_ble_eq_true rfl) ?_
 simp only [Tryd.ntmps14]
 refine gc_seq (gc_seqr [(.mv, 0)] rfl ?_)
 refine ga rfl rfl rfl rfl ?_
 refine gr_nil (gk_then ?_)
 refine gc_seq ?_
 refine gc_seq (gc_seqr [(.mv, 0), (.mv, 1)] rfl ?_)
 refine gm rfl rfl rfl rfl ?_
 refine gr_rd rfl rfl rfl (rd_ptrNil Tryd.underlying27 rfl rfl) ?_
 refine gr_nil (gk_then ?_)
 refine gc_yes rfl ?_
 refine gc_seq (gc_seqr [(.mv, 0)] rfl ?_)
 refine ga rfl rfl rfl rfl ?_
 refine gr_nil (gk_then ?_)
 refine gc_ret ?_
 refine gk_ret_then ?_
 refine gk_result (L' := L) (.inl rfl) _ (res1 rfl rfl) sbl gle ?_
 exact ⟨rfl, rfl, rfl⟩
theorem waits_nil (H : Gh) (L : Chunks) : CC Tryd.prog 18 #[.pointer none] H L (fun v H' L' => v = nilS ∧ H = H' ∧ L = L') := by
 refine cc_of Tryd.func18 rfl (Nat.le_of_ble_eq_true rfl) ?_
 simp only [Tryd.ntmps18]
 refine gc_seq (gc_seqr [(.mv, 0)] rfl ?_)
 refine ga rfl rfl rfl rfl ?_
 refine gr_nil (gk_then ?_)
 refine gc_seq ?_
 refine gc_seq (gc_seqr [(.mv, 0), (.mv, 1)] rfl ?_)
 refine gm rfl rfl rfl rfl ?_
 refine gr_rd rfl rfl rfl (rd_ptrNil Tryd.underlying27 rfl rfl) ?_
 refine gr_nil (gk_then ?_)
 refine gc_yes rfl ?_
 refine gc_seq (gc_seqr [(.mv, 0)] rfl ?_)
 refine ga rfl rfl rfl rfl ?_
 refine gr_nil (gk_then ?_)
 refine gc_ret ?_
 refine gk_ret_then ?_
 refine gk_result (L' := L) (.inl rfl) _ (res1 rfl rfl) sbl gle ?_
 exact ⟨rfl, rfl, rfl⟩
theorem past_nil (H : Gh) (L : Chunks) (n : Nm) : CC Tryd.prog 28 #[.pointer none, ag (encId n)] H L (fun v H' L' => v = nilS ∧ H = H' ∧ L = L') := by
 refine cc_of Tryd.func28 rfl (Nat.le_of_ble_eq_true rfl) ?_
 simp only [Tryd.ntmps28]
 refine gc_seq (gc_seqr [(.nm, 0), (.mv, 1)] rfl ?_)
 refine gr_nx rfl rfl rfl (nx_box rfl rfl) ?_; rintro _ _ _ _ ⟨b3, rfl, rfl, rfl⟩; refine ⟨trivial, ?_⟩
 refine ga rfl rfl rfl rfl ?_
 refine gr_nil (gk_then ?_)
 refine gc_seq ?_
 refine gc_seq (gc_seqr [(.mv, 0), (.mv, 1)] rfl ?_)
 refine gm rfl rfl rfl rfl ?_
 refine gr_rd rfl rfl rfl (rd_ptrNil Tryd.underlying27 rfl rfl) ?_
 refine gr_nil (gk_then ?_)
 refine gc_yes rfl ?_
 refine gc_seq (gc_seqr [(.mv, 0)] rfl ?_)
 refine ga rfl rfl rfl rfl ?_
 refine gr_nil (gk_then ?_)
 refine gc_ret ?_
 refine gk_ret_then ?_
 refine gk_result (L' := L) (.inl rfl) _ (res1 rfl rfl) sbl gle ?_
 exact ⟨rfl, rfl, rfl⟩
theorem take_nil (H : Gh) (L : Chunks) (o : POp) (pv : Value) (h1 : pv.oneCell' = true) : CC Tryd.prog 13 #[.pointer none, ag (encOp o pv)] H L (fun v H' L' => v = .tuple #[nilS, i64 2] ∧ H = H' ∧ L = L') := by
 refine cc_of Tryd.func13 rfl (Nat.le_of_ble_eq_true rfl) ?_
 simp only [Tryd.ntmps13]
 refine gc_seq (gc_seqr [(.nm, 0), (.mv, 1), (.mv, 2)] rfl ?_)
 refine gr_nx rfl rfl rfl (nx_box rfl rfl) ?_; rintro _ _ _ _ ⟨b3, rfl, rfl, rfl⟩; refine ⟨trivial, ?_⟩
 refine ga rfl rfl rfl rfl ?_
 refine ga rfl rfl rfl rfl ?_
 refine gr_nil (gk_then ?_)
 refine gc_seq ?_
 refine gc_block ?_
 refine gc_seq (gc_seqr [(.mv, 0), (.mv, 1), (.mv, 2)] rfl ?_)
 refine gm rfl rfl rfl rfl ?_
 refine gr_rd rfl rfl rfl (rd_ptrNil Tryd.underlying27 rfl rfl) ?_
 refine ga rfl rfl rfl rfl ?_
 refine gr_nil (gk_then ?_)
 refine gc_yes rfl ?_
 refine gc_seq (gc_seqr [(.mv, 0), (.mv, 1)] rfl ?_)
 refine ga rfl rfl rfl rfl ?_
 refine ga rfl rfl rfl rfl ?_
 refine gr_nil (gk_then ?_)
 refine gc_ret ?_
 refine gk_ret_inBlock ?_
 refine gk_ret_then ?_
 refine gk_result (L' := L) (.inl rfl) _ (res2 rfl rfl rfl) sbl gle ?_
 exact ⟨rfl, rfl, rfl⟩
theorem get_nil (H : Gh) (L : Chunks) (n : Nm) : CC Tryd.prog 15 #[.pointer none, ag (encId n)] H L (fun v H' L' => v = .tuple #[ag (encOp zeroOp nilS), i64 2] ∧ H = H' ∧ L = L') := by
 refine cc_of Tryd.func15 rfl (Nat.le_of_ble_eq_true rfl) ?_
 simp only [Tryd.ntmps15]
 refine gc_seq (gc_seqr [(.nm, 0), (.nm, 1), (.mv, 2)] rfl ?_)
 refine gr_nx rfl rfl rfl (nx_box rfl rfl) ?_; rintro _ _ _ _ ⟨b3, rfl, rfl, rfl⟩; refine ⟨trivial, ?_⟩
 refine gr_nx rfl rfl rfl (nx_alloc Tryd.zeroValue38 rfl) ?_; rintro _ _ _ _ ⟨b4, rfl, rfl, rfl⟩; refine ⟨trivial, ?_⟩
 refine ga rfl rfl rfl rfl ?_
 refine gr_nil (gk_then ?_)
 refine gc_seq ?_
 refine gc_seq (gc_seqr [(.mv, 0), (.mv, 1)] rfl ?_)
 refine gm rfl rfl rfl rfl ?_
 refine gr_rd rfl rfl rfl (rd_ptrNil Tryd.underlying27 rfl rfl) ?_
 refine gr_nil (gk_then ?_)
 refine gc_yes rfl ?_
 refine gc_seq (gc_seqr [(.mv, 0), (.nm, 1), (.mv, 2)] rfl ?_)
 refine gr_rd rfl rfl rfl (rd_build Tryd.bt38 (ps := []) (l := encOp zeroOp nilS) rfl rfl) ?_
 refine gr_nx0 rfl rfl (nx_store (vs := encOp zeroOp nilS) Tryd.sizeOf38 rfl rfl rfl (encOp_length _ _) upd (by simp) (encOp_ones _ rfl)) ?_; rintro _ _ _ _ ⟨rfl, rfl, rfl⟩; refine ⟨trivial, ?_⟩
 rw [wr_all (by simp)]
 refine ga rfl rfl rfl rfl ?_
 refine gr_nil (gk_then ?_)
 refine gc_ret ?_
 refine gk_ret_then ?_
 refine gk_result (L' := L) (.inl rfl) _ (resC2 rfl rfl Tryd.ta38 (Cells.own (l := encOp zeroOp nilS) (T := 38) (z := (0, 0)) (by simp )) (Seg.all _) (encOp_length _ _) rfl) sba (Gh.le_refl _) ?_
 exact ⟨rfl, rfl, rfl⟩
theorem next_nil (H : Gh) (L : Chunks) (author : Int) (d : Draft) : CC Tryd.prog 26 #[.pointer none, i64 author, ag (encDraft d)] H L (fun v H' L' => v = .tuple #[ag (encOp zeroOp nilS), i64 2] ∧ H = H' ∧ L = L') := by
 refine cc_of Tryd.func26 rfl (Nat.le_of_ble_eq_true rfl) ?_
 simp only [Tryd.ntmps26]
 refine gc_seq (gc_seqr [(.nm, 0), (.nm, 1), (.mv, 2)] rfl ?_)
 refine gr_nx rfl rfl rfl (nx_box rfl rfl) ?_; rintro _ _ _ _ ⟨b5, rfl, rfl, rfl⟩; refine ⟨trivial, ?_⟩
 refine gr_nx rfl rfl rfl (nx_alloc Tryd.zeroValue38 rfl) ?_; rintro _ _ _ _ ⟨b6, rfl, rfl, rfl⟩; refine ⟨trivial, ?_⟩
 refine ga rfl rfl rfl rfl ?_
 refine gr_nil (gk_then ?_)
 refine gc_seq ?_
 refine gc_seq (gc_seqr [(.mv, 0), (.mv, 1)] rfl ?_)
 refine gm rfl rfl rfl rfl ?_
 refine gr_rd rfl rfl rfl (rd_ptrNil Tryd.underlying27 rfl rfl) ?_
 refine gr_nil (gk_then ?_)
 refine gc_yes rfl ?_
 refine gc_seq (gc_seqr [(.mv, 0), (.nm, 1), (.mv, 2)] rfl ?_)
 refine gr_rd rfl rfl rfl (rd_build Tryd.bt38 (ps := []) (l := encOp zeroOp nilS) rfl rfl) ?_
 refine gr_nx0 rfl rfl (nx_store (vs := encOp zeroOp nilS) Tryd.sizeOf38 rfl rfl rfl (encOp_length _ _) upd (by simp) (encOp_ones _ rfl)) ?_; rintro _ _ _ _ ⟨rfl, rfl, rfl⟩; refine ⟨trivial, ?_⟩
 rw [wr_all (by simp)]
 refine ga rfl rfl rfl rfl ?_
 refine gr_nil (gk_then ?_)
 refine gc_ret ?_
 refine gk_ret_then ?_
 refine gk_result (L' := L) (.inl rfl) _ (resC2 rfl rfl Tryd.ta38 (Cells.own (l := encOp zeroOp nilS) (T := 38) (z := (0, 0)) (by simp )) (Seg.all _) (encOp_length _ _) rfl) sba (Gh.le_refl _) ?_
 exact ⟨rfl, rfl, rfl⟩
theorem heads_nil (H : Gh) (L : Chunks) : CC Tryd.prog 21 #[.pointer none] H L (fun v H' L' => v = nilS ∧ H = H' ∧ L = L') := by
 refine cc_of Tryd.func21 rfl (Nat.le_of_ble_eq_true rfl) ?_
 simp only [Tryd.ntmps21]
 refine gc_seq (gc_seqr [(.mv, 0)] rfl ?_)
 refine ga rfl rfl rfl rfl ?_
 refine gr_nil (gk_then ?_)
 refine gc_seq (gc_seqr [(.mv, 0)] rfl ?_)
 refine ga rfl rfl rfl rfl ?_
 refine gr_nil (gk_then ?_)
 refine gc_seq ?_
 refine gc_seq (gc_seqr [(.mv, 0), (.nm, 1), (.mv, 2), (.mv, 3)] rfl ?_)
 refine gm rfl rfl rfl rfl ?_
 refine gr_nx rfl rfl rfl (nx_call Tryd.en14 rfl (names_nil _ _)) ?_; rintro v7 H' L' hle ⟨rfl, rfl, rfl⟩; refine ⟨trivial, ?_⟩
 refine gr_rd rfl rfl rfl (rd_lenS Tryd.underlying29 rfl) ?_
 refine gm rfl rfl rfl rfl ?_
 refine gr_nil (gk_then ?_)
 refine gc_block ?_
 refine gc_loop (fun _ : Unit => [(3, nilS), (8, i64 0), (9, i64 0)]) (fun _ H1 L1 => H = H1 ∧ L = L1) (fun _ => 0) (()) ?_ sbs ?_
 ·exact ⟨rfl, rfl⟩
 ·rintro ⟨⟩ H1 L1 ⟨rfl, rfl⟩
  refine gc_seq (gc_seqr [(.mv, 0)] rfl ?_)
  refine gr_rd rfl rfl rfl (rd_lss rfl rfl) ?_
  refine gr_nil (gk_then ?_)
  refine gc_seq ?_
  refine gc_no rfl ?_
  refine gc_exit ?_
  refine gk_exit_then ?_
  refine gk_exit_then ?_
  refine gk_here ?_
  refine gk_then ?_
  refine gc_seq (gc_seqr [(.mv, 0), (.mv, 1)] rfl ?_)
  refine gm rfl rfl rfl rfl ?_
  refine ga rfl rfl rfl rfl ?_
  refine gr_nil (gk_then ?_)
  refine gc_ret ?_
  refine gk_result (L' := L) (.inl rfl) _ (res1 rfl rfl) sbl gle ?_
  exact ⟨rfl, rfl, rfl⟩
end Go.Proofs.YtfhldfjknagidaaDoor

/-
  What the document tells of two operations (plain).
-/
set_option linter.unusedSimpArgs false
set_option linter.unusedVariables false
set_option linter.unnecessarySimpa false
set_option linter.all false
namespace Go.Tr
set_option maxRecDepth 100000
def keyK : Bs := [107]
def drA : Draft := ⟨1, keyK, [], Nm.zero⟩
def drB : Draft := ⟨3, keyK, [], Nm.zero⟩
def opOne : POp := ⟨drA, 1, 1, []⟩
def opTwo : POp := ⟨drB, 2, 2, [nameOf opOne]⟩
theorem one_ne_two : nameOf opOne ≠ nameOf opTwo := by
  intro h
  have h2 : (nameOf opOne).bytes.getD 0 0 = (nameOf opTwo).bytes.getD 0 0 := by rw [h]
  revert h2
  decide +kernel
theorem cmp_one_two : (cmp (nameOf opOne) (nameOf opTwo) < 0) ∨ (cmp (nameOf opTwo) (nameOf opOne) < 0) := by decide +kernel
attribute [local irreducible] Go.Tr.sha
def setOne : DSet := ⟨[(nameOf opOne, opOne)], []⟩
def setWait : DSet := ⟨[], [(nameOf opTwo, opTwo)]⟩
def setTwo : DSet := ⟨[(nameOf opOne, opOne), (nameOf opTwo, opTwo)], []⟩
theorem goodA : goodDraft drA = true := by decide
theorem goodB : goodDraft drB = true := by decide
theorem good_one : good opOne = true := by decide
theorem good_two : good opTwo = true := by
  simp [good, opTwo, goodB, risingB]
theorem heads_empty : heads DSet.empty = [] := rfl
theorem alive_1 : next DSet.empty 1 drA = (opOne, 0) := by
  rw [next, if_neg (by rw [goodA]; decide), if_neg (by rw [heads_empty]; decide)]
  rfl
theorem whole_nil (s : DSet) (d : Draft) (a k : Int) : whole s ⟨d, a, k, []⟩ = true := rfl
theorem alive_2 : take DSet.empty opOne = (setOne, [nameOf opOne], 0) := by
  rw [take, if_neg (by rw [good_one]; decide), if_neg (by simp [has, DSet.empty]), if_neg (by rw [opOne, whole_nil]; decide), if_neg (by rw [opOne]; decide)]
  rfl
theorem heads_one : heads setOne = [nameOf opOne] := by
  simp [heads, setOne, behind, opOne, rising, ins]
theorem depth_one (s : DSet) (h : Tr.get s.ops (nameOf opOne) = some opOne) : depthOf s [nameOf opOne] = 2 := by
  simp only [depthOf, deepest, List.foldl_cons, List.foldl_nil, h]
  decide
theorem get_one : Tr.get setOne.ops (nameOf opOne) = some opOne := by simp [Tr.get, setOne]
theorem alive_3 : next setOne 2 drB = (opTwo, 0) := by
  rw [next, if_neg (by rw [goodB]; decide), if_neg (by rw [heads_one]; decide), heads_one, depth_one _ get_one]
  rfl
theorem alive_4 : take DSet.empty opTwo = (setWait, [], 0) := by
  rw [take, if_neg (by rw [good_two]; decide), if_neg (by simp [has, DSet.empty]), if_pos (by simp [whole, opTwo, has, DSet.empty])]
  rfl
theorem alive_5 : take setWait opOne = (setTwo, [nameOf opOne, nameOf opTwo], 0) := by
  have hne := one_ne_two
  rw [take, if_neg (by rw [good_one]; decide), if_neg (by simp [has, setWait, Ne.symm hne]), if_neg (by rw [opOne, whole_nil]; decide), if_neg (by rw [opOne]; decide)]
  have h1 : (⟨setWait.ops ++ [(nameOf opOne, opOne)], setWait.wait⟩ : DSet) = ⟨[(nameOf opOne, opOne)], [(nameOf opTwo, opTwo)]⟩ := rfl
  have hw : ∀ w, whole ⟨[(nameOf opOne, opOne)], w⟩ opTwo = true := by intro w; simp [whole, opTwo, has]
  have hb : bestOf ⟨[(nameOf opOne, opOne)], [(nameOf opTwo, opTwo)]⟩ [(nameOf opTwo, opTwo)] 0 none = some (0, nameOf opTwo) := by
    simp [bestOf, hw]
  have hd : opTwo.depth = depthOf ⟨[(nameOf opOne, opOne)], []⟩ opTwo.preds := by
    exact (depth_one ⟨[(nameOf opOne, opOne)], []⟩ get_one).symm
  have hs : settle (setWait.wait.length + 1) ⟨setWait.ops ++ [(nameOf opOne, opOne)], setWait.wait⟩ [nameOf opOne] = (setTwo, [nameOf opOne, nameOf opTwo]) := by
    rw [h1, settle, hb]
    exact if_pos hd
  simp only [hs]
theorem alive_6 : (heads setTwo).length = 1 := by
  have hne := one_ne_two
  have h1 : behind setTwo (nameOf opOne) = true := by simp [behind, setTwo, opTwo]
  have h2 : behind setTwo (nameOf opTwo) = false := by
    have e1 : opOne.preds = [] := rfl
    have e2 : opTwo.preds = [nameOf opOne] := rfl
    simp [behind, setTwo, e1, e2, hne]
  have : (setTwo.ops.map (·.1)).filter (fun n => !behind setTwo n) = [nameOf opTwo] := by
    show ([nameOf opOne, nameOf opTwo] : List Nm).filter _ = _
    simp [h1, h2]
  rw [heads, this]; rfl
end Go.Tr

/-
  Walks: what the document tells of two operations.
-/
set_option linter.unusedSimpArgs false
set_option linter.unusedVariables false
set_option linter.unnecessarySimpa false
set_option linter.all false
namespace Go.Proofs.YtfhldfjknagidaaDoor
open Go.VK Go.Tr
set_option maxRecDepth 20000
attribute [local irreducible] Go.Tr.sha
theorem small_of_good {o : POp} (h1 : goodDraft o.draft = true) (h2 : o.author < 9223372036854775808) (h3 : o.depth < 9223372036854775808) (h4 : o.preds.length < 16777216) : SmallO o := by
  simp only [goodDraft, Bool.and_eq_true, decide_eq_true_eq] at h1
  exact ⟨⟨by omega, by omega, by omega⟩, h2, h3, h4⟩
theorem small_one : SmallO opOne := small_of_good goodA (by decide) (by decide) (by decide)
theorem small_two : SmallO opTwo := small_of_good goodB (by decide) (by decide) (by simp [opTwo])

set_option maxHeartbeats 2000000 in
theorem alive_cc (H : Gh) (hG : Glob H) (L : Chunks) :
    CC Tryd.prog 10 #[] H L (fun v H' L' => v = .bool true ∧ L = L') := by
 have hLE := Gh.le_refl H
 refine cc_of Tryd.func10 rfl (Nat.le_of_ble_eq_true rfl) ?_
 simp only [Tryd.ntmps10]
 refine gc_seq (gc_seqr [(.mv, 0)] rfl ?_)
 refine ga rfl rfl rfl rfl ?_
 refine gr_nil (gk_then ?_)
 refine gc_seq (gc_seqr [(.nm, 0), (.nm, 1), (.mv, 2), (.mv, 3)] rfl ?_)
 refine gr_nx rfl rfl rfl (nx_call Tryd.en12 rfl (new_cc _ _)) ?_; rintro v11 H' L' hle ⟨b1, bo1, bw1, bt1, ob1, ow1, ot1, rfl, hR1, rfl, rfl⟩; refine ⟨trivial, ?_⟩
 refine gr_nx rfl rfl rfl (nx_call Tryd.en12 rfl (new_cc _ _)) ?_; rintro v12 H' L' hle ⟨b2, bo2, bw2, bt2, ob2, ow2, ot2, rfl, hR2, rfl, rfl⟩; refine ⟨trivial, ?_⟩
 refine ga rfl rfl rfl rfl ?_
 refine ga rfl rfl rfl rfl ?_
 refine gr_nil (gk_then ?_)
 refine gc_seq (gc_seqr [(.mv, 0), (.mv, 1), (.nm, 2), (.mv, 3), (.mv, 4), (.mv, 5), (.nm, 6), (.nm, 7), (.mv, 8)] rfl ?_)
 refine gm rfl rfl rfl rfl ?_
 refine gr_rd rfl rfl rfl (rd_build Tryd.bt36 (ps := [(0, i64 1), (1, str keyK)]) (l := encDraft drA) rfl rfl) ?_
 refine gr_perm (L' := ((b1, .cells [.map (some bo1), .map (some bw1), .map (some bt1)].toArray 83 (0, 0)) :: (bo1, ob1) :: (bw1, ow1) :: (bt1, ot1) :: ((b2, .cells [.map (some bo2), .map (some bw2), .map (some bt2)].toArray 83 (0, 0)) :: (bo2, ob2) :: (bw2, ow2) :: (bt2, ot2) :: L))) (by haveI : DecidableEq (Nat × Obj) := fun _ _ => Classical.propDecidable _; rw [List.perm_iff_count]; intro a; simp only [List.count_append, List.count_cons, List.count_nil]; ac_rfl) ?_
 refine gr_nx rfl rfl rfl (nx_call Tryd.en26 rfl (next_cc _ _ hR1 (by decide) 1 drA)) ?_; rintro v16 H' L' hle ⟨C1, pv1, rfl, hO1, rfl, rfl⟩; refine ⟨trivial, ?_⟩
 rw [alive_1] at hO1 ⊢
 refine gr_sealOw encId_length hO1 rfl (by first | decide | simp [opOne, opTwo]) (fun HH hle hs1 => ?_)
 have hLE := Gh.le_trans hLE hle
 replace hG := hG.mono hle
 replace hR1 := hR1.up hle
 replace hR2 := hR2.up hle
 refine gm rfl rfl rfl rfl ?_
 refine gr_rd rfl rfl rfl (rd_extract rfl rfl) ?_
 refine gr_rd rfl rfl rfl (rd_extract rfl rfl) ?_
 refine gr_nx rfl rfl rfl (nx_alloc Tryd.zeroValue38 rfl) ?_; rintro _ _ _ _ ⟨b3, rfl, rfl, rfl⟩; refine ⟨trivial, ?_⟩
 refine gr_nx0 rfl rfl (nx_store (vs := encOp opOne pv1) Tryd.sizeOf38 rfl rfl rfl (encOp_length _ _) upd (by simp) (encOp_ones _ hs1.one)) ?_; rintro _ _ _ _ ⟨rfl, rfl, rfl⟩; refine ⟨trivial, ?_⟩
 rw [wr_all (by simp)]
 refine ga rfl rfl rfl rfl ?_
 refine gr_nil (gk_then ?_)
 refine gc_seq ?_
 refine gc_seq (gc_seqr [(.mv, 0), (.mv, 1)] rfl ?_)
 refine gm rfl rfl rfl rfl ?_
 refine gr_rd rfl rfl rfl (rd_neq rfl rfl) ?_
 refine gr_nil (gk_then ?_)
 refine gc_no rfl ?_
 refine gc_skip ?_
 refine gk_then ?_
 refine gc_seq (gc_seqr [(.mv, 0), (.mv, 1), (.nm, 2)] rfl ?_)
 refine gm rfl rfl rfl rfl ?_
 refine gr_rd rfl rfl rfl (rd_loadA Tryd.ta38 rfl (Cells.own (l := encOp opOne pv1) (T := 38) (z := (0, 0)) (by simp [baseL])) (Seg.all _) (encOp_length _ _)) ?_
 refine gr_perm (L' := ((b1, .cells [.map (some bo1), .map (some bw1), .map (some bt1)].toArray 83 (0, 0)) :: (bo1, ob1) :: (bw1, ow1) :: (bt1, ot1) :: ((b3, .cells (encOp opOne pv1).toArray 38 (0, 0)) :: ((b2, .cells [.map (some bo2), .map (some bw2), .map (some bt2)].toArray 83 (0, 0)) :: (bo2, ob2) :: (bw2, ow2) :: (bt2, ot2) :: L)))) (by haveI : DecidableEq (Nat × Obj) := fun _ _ => Classical.propDecidable _; rw [List.perm_iff_count]; intro a; simp only [List.count_append, List.count_cons, List.count_nil]; ac_rfl) ?_
 refine gr_nx rfl rfl rfl (nx_call Tryd.en13 rfl (take_cc _ hG _ hR1 (by decide) opOne pv1 (hs1.any) small_one)) ?_; rintro v23 H' L' hle ⟨ob3, ow3, ot3, C2, vo2, hR3, hO2, rfl, rfl⟩; refine ⟨trivial, ?_⟩
 rw [alive_2] at hR3 hO2
 have hLE := Gh.le_trans hLE hle
 replace hG := hG.mono hle
 replace hR2 := hR2.up hle
 replace hs1 := hs1.up hle
 refine gr_drop (L' := ((b1, .cells [.map (some bo1), .map (some bw1), .map (some bt1)].toArray 83 (0, 0)) :: (bo1, ob3) :: (bw1, ow3) :: (bt1, ot3) :: ((b3, .cells (encOp opOne pv1).toArray 38 (0, 0)) :: ((b2, .cells [.map (some bo2), .map (some bw2), .map (some bt2)].toArray 83 (0, 0)) :: (bo2, ob2) :: (bw2, ow2) :: (bt2, ot2) :: L)))) (List.sublist_append_right _ _) ?_
 refine gr_nil (gk_then ?_)
 refine gc_seq (gc_seqr [(.mv, 0), (.mv, 1), (.nm, 2), (.mv, 3), (.mv, 4), (.mv, 5), (.nm, 6), (.nm, 7), (.mv, 8)] rfl ?_)
 refine gm rfl rfl rfl rfl ?_
 refine gr_rd rfl rfl rfl (rd_build Tryd.bt36 (ps := [(0, i64 3), (1, str keyK)]) (l := encDraft drB) rfl rfl) ?_
 refine gr_nx rfl rfl rfl (nx_call Tryd.en26 rfl (next_cc _ _ hR3 (by decide) 2 drB)) ?_; rintro v27 H' L' hle ⟨C3, pv2, rfl, hO3, rfl, rfl⟩; refine ⟨trivial, ?_⟩
 rw [alive_3] at hO3 ⊢
 refine gr_sealOw encId_length hO3 rfl (by first | decide | simp [opOne, opTwo]) (fun HH hle hs2 => ?_)
 have hLE := Gh.le_trans hLE hle
 replace hG := hG.mono hle
 replace hR2 := hR2.up hle
 replace hR3 := hR3.up hle
 replace hs1 := hs1.up hle
 refine gm rfl rfl rfl rfl ?_
 refine gr_rd rfl rfl rfl (rd_extract rfl rfl) ?_
 refine gr_rd rfl rfl rfl (rd_extract rfl rfl) ?_
 refine gr_nx rfl rfl rfl (nx_alloc Tryd.zeroValue38 rfl) ?_; rintro _ _ _ _ ⟨b5, rfl, rfl, rfl⟩; refine ⟨trivial, ?_⟩
 refine gr_nx0 rfl rfl (nx_store (vs := encOp opTwo pv2) Tryd.sizeOf38 rfl rfl rfl (encOp_length _ _) upd (by simp) (encOp_ones _ hs2.one)) ?_; rintro _ _ _ _ ⟨rfl, rfl, rfl⟩; refine ⟨trivial, ?_⟩
 rw [wr_all (by simp)]
 refine ga rfl rfl rfl rfl ?_
 refine gr_nil (gk_then ?_)
 refine gc_seq (gc_seqr [(.mv, 0), (.mv, 1), (.nm, 2), (.mv, 3), (.mv, 4), (.mv, 5), (.mv, 6), (.mv, 7)] rfl ?_)
 refine gm rfl rfl rfl rfl ?_
 refine gr_rd rfl rfl rfl (rd_loadA Tryd.ta38 rfl (Cells.own (l := encOp opTwo pv2) (T := 38) (z := (0, 0)) (by simp [baseL])) (Seg.all _) (encOp_length _ _)) ?_
 refine gr_perm (L' := ((b2, .cells [.map (some bo2), .map (some bw2), .map (some bt2)].toArray 83 (0, 0)) :: (bo2, ob2) :: (bw2, ow2) :: (bt2, ot2) :: ((b5, .cells (encOp opTwo pv2).toArray 38 (0, 0)) :: (b3, .cells (encOp opOne pv1).toArray 38 (0, 0)) :: ((b1, .cells [.map (some bo1), .map (some bw1), .map (some bt1)].toArray 83 (0, 0)) :: (bo1, ob3) :: (bw1, ow3) :: (bt1, ot3) :: L)))) (by haveI : DecidableEq (Nat × Obj) := fun _ _ => Classical.propDecidable _; rw [List.perm_iff_count]; intro a; simp only [List.count_append, List.count_cons, List.count_nil]; ac_rfl) ?_
 refine gr_nx rfl rfl rfl (nx_call Tryd.en13 rfl (take_cc _ hG _ hR2 (by decide) opTwo pv2 (hs2.any) small_two)) ?_; rintro v33 H' L' hle ⟨ob4, ow4, ot4, C4, vo4, hR4, hO4, rfl, rfl⟩; refine ⟨trivial, ?_⟩
 rw [alive_4] at hR4 hO4 ⊢
 obtain ⟨a4, c4, rfl, hc4⟩ := hO4.slice
 have hLE := Gh.le_trans hLE hle
 replace hG := hG.mono hle
 replace hs1 := hs1.up hle
 refine gr_drop (L' := ((b2, .cells [.map (some bo2), .map (some bw2), .map (some bt2)].toArray 83 (0, 0)) :: (bo2, ob4) :: (bw2, ow4) :: (bt2, ot4) :: ((b5, .cells (encOp opTwo pv2).toArray 38 (0, 0)) :: (b3, .cells (encOp opOne pv1).toArray 38 (0, 0)) :: ((b1, .cells [.map (some bo1), .map (some bw1), .map (some bt1)].toArray 83 (0, 0)) :: (bo1, ob3) :: (bw1, ow3) :: (bt1, ot3) :: L)))) (List.sublist_append_right _ _) ?_
 refine gm rfl rfl rfl rfl ?_
 refine gr_rd rfl rfl rfl (rd_extract rfl rfl) ?_
 refine gr_rd rfl rfl rfl (rd_extract rfl rfl) ?_
 refine ga rfl rfl rfl rfl ?_
 refine ga rfl rfl rfl rfl ?_
 refine gr_nil (gk_then ?_)
 refine gc_seq (gc_seqr [(.mv, 0), (.mv, 1), (.nm, 2), (.mv, 3), (.mv, 4), (.mv, 5), (.mv, 6), (.mv, 7)] rfl ?_)
 refine gm rfl rfl rfl rfl ?_
 refine gr_rd rfl rfl rfl (rd_loadA Tryd.ta38 rfl (Cells.own (l := encOp opOne pv1) (T := 38) (z := (0, 0)) (by simp [baseL])) (Seg.all _) (encOp_length _ _)) ?_
 refine gr_nx rfl rfl rfl (nx_call Tryd.en13 rfl (take_cc _ hG _ hR4 (by decide) opOne pv1 (hs1.any) small_one)) ?_; rintro v39 H' L' hle ⟨ob5, ow5, ot5, C5, vo5, hR5, hO5, rfl, rfl⟩; refine ⟨trivial, ?_⟩
 rw [alive_5] at hR5 hO5 ⊢
 obtain ⟨a5, c5, rfl, hc5⟩ := hO5.slice
 have hLE := Gh.le_trans hLE hle
 replace hG := hG.mono hle
 refine gr_drop (L' := ((b2, .cells [.map (some bo2), .map (some bw2), .map (some bt2)].toArray 83 (0, 0)) :: (bo2, ob5) :: (bw2, ow5) :: (bt2, ot5) :: ((b5, .cells (encOp opTwo pv2).toArray 38 (0, 0)) :: (b3, .cells (encOp opOne pv1).toArray 38 (0, 0)) :: ((b1, .cells [.map (some bo1), .map (some bw1), .map (some bt1)].toArray 83 (0, 0)) :: (bo1, ob3) :: (bw1, ow3) :: (bt1, ot3) :: L)))) (List.sublist_append_right _ _) ?_
 refine gm rfl rfl rfl rfl ?_
 refine gr_rd rfl rfl rfl (rd_extract rfl rfl) ?_
 refine gr_rd rfl rfl rfl (rd_extract rfl rfl) ?_
 refine ga rfl rfl rfl rfl ?_
 refine ga rfl rfl rfl rfl ?_
 refine gr_nil (gk_then ?_)
 refine gc_seq (gc_seqr [(.mv, 0), (.mv, 1), (.mv, 2), (.mv, 3), (.mv, 4), (.mv, 5), (.mv, 6), (.mv, 7), (.mv, 8), (.mv, 9), (.mv, 10), (.mv, 11), (.mv, 12), (.mv, 13), (.mv, 14), (.mv, 15), (.mv, 16), (.mv, 17), (.nm, 18), (.mv, 19), (.mv, 20), (.mv, 21), (.mv, 22)] rfl ?_)
 refine gm rfl rfl rfl rfl ?_
 refine gr_rd rfl rfl rfl (rd_eql rfl rfl) ?_
 refine gm rfl rfl rfl rfl ?_
 refine gm rfl rfl rfl rfl ?_
 refine gr_rd rfl rfl rfl (rd_eql rfl rfl) ?_
 (first | refine gpt rfl rfl rfl rfl rfl ?_ | refine gpf rfl rfl rfl rfl rfl ?_)
 refine gm rfl rfl rfl rfl ?_
 refine gm rfl rfl rfl rfl ?_
 refine gr_rd rfl rfl rfl (rd_lenS Tryd.underlying29 rfl) ?_
 refine gr_rd rfl rfl rfl (rd_eql rfl rfl) ?_
 (first | refine gpt rfl rfl rfl rfl rfl ?_ | refine gpf rfl rfl rfl rfl rfl ?_)
 refine gm rfl rfl rfl rfl ?_
 refine gm rfl rfl rfl rfl ?_
 refine gr_rd rfl rfl rfl (rd_lenS Tryd.underlying29 rfl) ?_
 refine gr_rd rfl rfl rfl (rd_eql rfl rfl) ?_
 (first | refine gpt rfl rfl rfl rfl rfl ?_ | refine gpf rfl rfl rfl rfl rfl ?_)
 refine gm rfl rfl rfl rfl ?_
 refine gm rfl rfl rfl rfl ?_
 refine gr_nx rfl rfl rfl (nx_call Tryd.en21 rfl (heads_cc _ _ hR5 (by decide))) ?_; rintro v60 H' L' hle ⟨C6, hO6, rfl, rfl⟩; refine ⟨trivial, ?_⟩
 obtain ⟨a6, c6, rfl, hc6⟩ := hO6.slice
 rw [alive_6]
 refine gr_rd rfl rfl rfl (rd_lenS Tryd.underlying29 rfl) ?_
 refine gr_rd rfl rfl rfl (rd_eql rfl rfl) ?_
 (first | refine gpt rfl rfl rfl rfl rfl ?_ | refine gpf rfl rfl rfl rfl rfl ?_)
 refine ga rfl rfl rfl rfl ?_
 refine gr_nil (gk_then ?_)
 refine gc_ret ?_
 refine gk_drop (L' := ([] ++ L)) sba ?_
 refine gk_result (L' := [] ++ L) (.inl rfl) _ (res1 rfl rfl) (List.Sublist.refl _) (by assumption) ?_
 exact ⟨rfl, rfl⟩
end Go.Proofs.YtfhldfjknagidaaDoor
