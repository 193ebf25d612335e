/-
  How the recipes of operations lie in memory; memory that stands for good from now on.
-/
import Derived.Test.YtfhldfjknagidaaDoorVKo
set_option linter.unusedSimpArgs false
set_option linter.unusedVariables false
namespace Go.VK
open Go.Tr

def encMakeV (p : Tr.Make × Value) : List Value := [i64 p.1.kind, i64 p.1.author] ++ (encDraft p.1.draft ++ ([i64 p.1.at_, i64 p.1.other, i64 p.1.deep] ++ encOp p.1.op p.2))
@[simp] theorem encMakeV_length (p : Tr.Make × Value) : (encMakeV p).length = 78 := by simp [encMakeV]
theorem encMakeV_ones {p : Tr.Make × Value} (h : p.2.oneCell' = true) : oneCells (encMakeV p) :=
  oneCells_append (oneCells_of_all rfl) (oneCells_append (encDraft_ones _) (oneCells_append (oneCells_of_all rfl) (encOp_ones _ h)))
theorem encMakeV_seg_draft (p : Tr.Make × Value) : Seg (encMakeV p) 2 (encDraft p.1.draft) := Seg.skip (p := [i64 p.1.kind, i64 p.1.author]) Seg.head rfl
theorem encMakeV_at (p : Tr.Make × Value) (j : Nat) (h : j < 3) : (encMakeV p)[37 + j]? = [i64 p.1.at_, i64 p.1.other, i64 p.1.deep][j]? := by
  rw [encMakeV, List.getElem?_append_right (by simp; omega), List.getElem?_append_right (by simp; omega), List.getElem?_append_left (by simp; omega)]
  simp only [encDraft_length, List.length_cons, List.length_nil]
  congr 1; omega
@[simp] theorem encMakeV_0 (p : Tr.Make × Value) : (encMakeV p)[0]? = some (i64 p.1.kind) := rfl
@[simp] theorem encMakeV_1 (p : Tr.Make × Value) : (encMakeV p)[1]? = some (i64 p.1.author) := rfl
@[simp] theorem encMakeV_37 (p : Tr.Make × Value) : (encMakeV p)[37]? = some (i64 p.1.at_) := encMakeV_at p 0 (by decide)
@[simp] theorem encMakeV_38 (p : Tr.Make × Value) : (encMakeV p)[38]? = some (i64 p.1.other) := encMakeV_at p 1 (by decide)
@[simp] theorem encMakeV_39 (p : Tr.Make × Value) : (encMakeV p)[39]? = some (i64 p.1.deep) := encMakeV_at p 2 (by decide)
theorem encMakeV_seg_op (p : Tr.Make × Value) : Seg (encMakeV p) 40 (encOp p.1.op p.2) := by
  have h1 : Seg ([i64 p.1.at_, i64 p.1.other, i64 p.1.deep] ++ encOp p.1.op p.2) 3 (encOp p.1.op p.2) := Seg.skip (Seg.all _) rfl
  have h2 : Seg (encDraft p.1.draft ++ ([i64 p.1.at_, i64 p.1.other, i64 p.1.deep] ++ encOp p.1.op p.2)) 38 (encOp p.1.op p.2) := Seg.skip h1 (by simp)
  exact Seg.skip (p := [i64 p.1.kind, i64 p.1.author]) h2 rfl

/-- What a slice's header gives at a place. -/
theorem slt_at {α : Type} {enc : α → List Value} {k : Nat} {H : Gh} {L : Chunks} {b off : Nat} {l : List Value} {a : Option Addr} {xs : List α} (h1 : xs ≠ [] → a = some ⟨b, off, none⟩ ∧ Cells H L b l) (h2 : ∀ j x, xs[j]? = some x → Seg l (off + j * k) (enc x))
    {j : Nat} {i : Int} {x : α} (hx : xs[j]? = some x) (hi : i = (j : Int)) : a = some ⟨b, off, none⟩ ∧ Cells H L b l ∧ Seg l (off + i.toNat * k) (enc x) := by
  subst hi
  have hj := (List.getElem?_eq_some_iff.1 hx).1
  obtain ⟨h3, h4⟩ := h1 (List.ne_nil_of_length_pos (by omega))
  exact ⟨h3, h4, by rw [Int.toNat_natCast]; exact h2 j x hx⟩

/-! ## Sealing -/
theorem Ow.fixed {α : Type} {enc : α → List Value} {e k n : Nat} {C L : Chunks} {v : Value} {xs : List α} {H : Gh} {w : World} (hk : ∀ x, (enc x).length = k) (hO : Ow e k C v n (xs.flatMap enc)) (hn : xs.length = n) (hlt : n < 4611686018427387904) (hS : Sat w H (C ++ L)) :
    ∃ H', H ≤ H' ∧ SlT enc k H' [] v xs ∧ Sat w H' L := by
  obtain ⟨hlen, h | ⟨b, cap, rest, z, rfl, hc, hr, rfl, hz⟩⟩ := hO
  · obtain ⟨rfl, rfl, rfl⟩ := h
    have : xs = [] := List.length_eq_zero_iff.1 hn
    subst this
    exact ⟨H, Gh.le_refl _, SlT.nil, by simpa using hS⟩
  · have hS' : Sat w H ((b, .cells (xs.flatMap enc ++ rest).toArray e z) :: L) := hS
    subst hn
    refine ⟨_, Gh.le_add hS'.free, ⟨some ⟨b, 0, none⟩, b, 0, cap, xs.flatMap enc ++ rest, rfl, hc, hlt, (fun h => by cases h), fun _ => ⟨rfl, e, z, .inl (Gh.add_self _ _)⟩, fun j x hx => ?_⟩, hS'.fixed⟩
    rw [Nat.zero_add]
    exact Seg.append_left (flat_seg hk xs j x hx)
section
variable {α : Type} {enc : α → List Value} {e k m : Nat} {C L : Chunks} {v : Value} {xs : List α} {H : Gh} {P : Program} {c : Code} {Q : Exit → Act → World → Prop} {n : Nat} {E : Env}
theorem gc_sealOw (hk : ∀ x, (enc x).length = k) (hO : Ow e k C v m (xs.flatMap enc)) (hn : xs.length = m) (hlt : m < 4611686018427387904) (h : ∀ H', H ≤ H' → SlT enc k H' [] v xs → GC P c Q n E H' L) : GC P c Q n E H (C ++ L) := fun a w hA hS => by
  obtain ⟨H', h1, h2, h3⟩ := hO.fixed hk hn hlt hS
  exact h H' h1 h2 a w hA h3
theorem gk_sealOw {x : Exit} (hk : ∀ x, (enc x).length = k) (hO : Ow e k C v m (xs.flatMap enc)) (hn : xs.length = m) (hlt : m < 4611686018427387904) (h : ∀ H', H ≤ H' → SlT enc k H' [] v xs → GK Q x n E H' L) : GK Q x n E H (C ++ L) := fun a w hA hS => by
  obtain ⟨H', h1, h2, h3⟩ := hO.fixed hk hn hlt hS
  exact h H' h1 h2 a w hA h3
theorem gr_sealOw {ops : List Oper} {M : Option (Gh × Chunks)} {r : List (Fl × Nat)} (hk : ∀ x, (enc x).length = k) (hO : Ow e k C v m (xs.flatMap enc)) (hn : xs.length = m) (hlt : m < 4611686018427387904) (h : ∀ H', H ≤ H' → SlT enc k H' [] v xs → GR P ops M Q n E r H' L) : GR P ops M Q n E r H (C ++ L) := fun a w hA hS => by
  obtain ⟨H', h1, h2, h3⟩ := hO.fixed hk hn hlt hS
  exact h H' h1 h2 a w hA h3
end

/-! ## Numbers -/
theorem wrap_range (x : Int) : -9223372036854775808 ≤ wrap x ∧ wrap x < 9223372036854775808 := by
  unfold wrap; omega
theorem pick_lt (i : Int) {n : Nat} (h : 0 < n) : pickAt i n < n := Nat.mod_lt _ h
theorem pick_wrap (i : Int) {n : Nat} (h : 0 < n) (hn : n < 16777216) : IntKind.i64.wrap ((IntKind.u64.wrap i).tmod (n : Int)) = ((pickAt i n : Nat) : Int) := by
  have e1 : IntKind.u64.wrap i = i % 18446744073709551616 := by simp [IntKind.wrap, IntKind.bits, IntKind.signed]
  have h0 : 0 ≤ i % 18446744073709551616 := by omega
  rw [e1, Int.tmod_eq_emod_of_nonneg h0]
  have e2 : (i % 18446744073709551616) % (n : Int) = ((pickAt i n : Nat) : Int) := by
    unfold pickAt
    rw [Int.natCast_emod, Int.toNat_of_nonneg h0]
  rw [e2]
  have := pick_lt i h
  exact IntWalk.i64_in _ (by omega)
/-- Numbers of 64 bits. -/
structure RngO (o : POp) : Prop where
  kind : o.draft.kind < 9223372036854775808
  author : o.author < 9223372036854775808
  depth : o.depth < 9223372036854775808
structure RngM (m : Tr.Make) : Prop where
  draft : m.draft.kind < 9223372036854775808
  author : m.author < 9223372036854775808
  op : RngO m.op
theorem next_ok {s : DSet} {a : Int} {d : Draft} (h : (next s a d).2 = 0) : (next s a d).1 = ⟨d, a, depthOf s (heads s), heads s⟩ := by
  unfold next at *
  split at h
  · cases h
  · rename_i h1
    rw [if_neg h1]
    split at h
    · cases h
    · rename_i h2
      rw [if_neg h2]
theorem madeGo_none {k : Nat} {m : Tr.Make} {r : List Tr.Make} {s : DSet} {out : List POp} (h : makeOp s out m = none) : madeGo (k + 1) (m :: r) s out = madeGo k r s out := by
  rw [madeGo]; simp only [h]
theorem madeGo_big {k : Nat} {m : Tr.Make} {r : List Tr.Make} {s : DSet} {out : List POp} {o : POp} (h : makeOp s out m = some o) (hb : 70 < o.preds.length ∨ 100 < o.draft.key.length ∨ 100 < o.draft.value.length) :
    madeGo (k + 1) (m :: r) s out = madeGo k r s out := by
  rw [madeGo]; simp only [h]; rw [if_pos hb]
theorem madeGo_some {k : Nat} {m : Tr.Make} {r : List Tr.Make} {s : DSet} {out : List POp} {o : POp} (h : makeOp s out m = some o) (hb : ¬ (70 < o.preds.length ∨ 100 < o.draft.key.length ∨ 100 < o.draft.value.length)) :
    madeGo (k + 1) (m :: r) s out = madeGo k r (take s o).1 (out ++ [o]) := by
  rw [madeGo]; simp only [h]; rw [if_neg hb]
theorem madeGo_nil {k : Nat} {s : DSet} {out : List POp} : madeGo k [] s out = out := by cases k <;> rfl
theorem settle_len : ∀ (k : Nat) (s : DSet) (out : List Nm), (Tr.settle k s out).1.ops.length + (Tr.settle k s out).1.wait.length ≤ s.ops.length + s.wait.length
  | 0, s, out => Nat.le_refl _
  | k + 1, s, out => by
    rw [Tr.settle]
    split
    · exact Nat.le_refl _
    · split
      · exact Nat.le_refl _
      · rename_i i n _ _ _ o ho
        dsimp only
        have hi := (List.getElem?_eq_some_iff.1 ho).1
        have he : (s.wait.eraseIdx i).length = s.wait.length - 1 := List.length_eraseIdx_of_lt hi
        split
        · have := settle_len k ⟨s.ops ++ [(n, o)], s.wait.eraseIdx i⟩ (out ++ [n])
          simp only [List.length_append, List.length_cons, List.length_nil] at this
          refine Nat.le_trans this ?_
          rw [he]; omega
        · have := settle_len k ⟨s.ops, s.wait.eraseIdx i⟩ out
          refine Nat.le_trans this ?_
          show s.ops.length + (s.wait.eraseIdx i).length ≤ _
          rw [he]; omega
theorem take_len (s : DSet) (o : POp) : (take s o).1.ops.length + (take s o).1.wait.length ≤ s.ops.length + s.wait.length + 1 := by
  unfold take
  split
  · exact Nat.le_succ _
  · split
    · exact Nat.le_succ _
    · split
      · simp only [List.length_append, List.length_cons, List.length_nil]; omega
      · split
        · exact Nat.le_succ _
        · have := settle_len (s.wait.length + 1) ⟨s.ops ++ [(nameOf o, o)], s.wait⟩ [nameOf o]
          simp only [List.length_append, List.length_cons, List.length_nil] at this
          refine Nat.le_trans this ?_
          omega
end Go.VK
