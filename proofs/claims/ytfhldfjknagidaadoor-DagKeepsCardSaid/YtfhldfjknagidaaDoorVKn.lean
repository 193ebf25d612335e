/-
  Composite values: operations and drafts put together out of their parts.
-/
import Derived.Test.YtfhldfjknagidaaDoorVKl
import Derived.Test.YtfhldfjknagidaaDoorVKq
set_option linter.unusedSimpArgs false
set_option linter.unusedVariables false
namespace Go.VK
open Go.Tr

theorem encOp_set_author (o : POp) (pv : Value) (a : Int) : wr (encOp o pv) 35 [i64 a] = encOp { o with author := a } pv := by
  have h1 : (encOp o pv).take 35 = encDraft o.draft := by
    rw [encOp, List.take_append, List.take_of_length_le (by simp)]; simp
  have h2 : (encOp o pv).drop (35 + [i64 a].length) = [i64 o.depth, pv] := by
    rw [encOp, List.drop_append, List.drop_eq_nil_of_le (by simp)]; simp
  rw [wr, h1, h2]
  simp [encOp]
theorem encOp_set_draft (o : POp) (pv : Value) (d : Draft) : wr (encOp o pv) 0 (encDraft d) = encOp { o with draft := d } pv := by
  have h2 : (encOp o pv).drop (0 + (encDraft d).length) = [i64 o.author, i64 o.depth, pv] := by
    rw [encOp, List.drop_append, List.drop_eq_nil_of_le (by simp)]; simp
  rw [wr, h2]
  simp [encOp]
theorem encOp_preds (o : POp) (pv : Value) (ps : List Nm) : encOp { o with preds := ps } pv = encOp o pv := rfl
abbrev opPl (x : Nat) : Option (Nat × Nat) := [(0, 35), (35, 1), (36, 1), (37, 1)][x]?
abbrev nilS : Value := .slice none 0 0
theorem one_cells {v : Value} (h : v.oneCell' = true) : v.cells = [v].toArray := by
  have := cells1 h
  rw [← this]
/-- Draft, author and names ahead. -/
theorem fill_op3 {d : Draft} {a : Int} {pv : Value} {ps : List Nm} (h : pv.oneCell' = true) :
    Instr.fill opPl (encOp zeroOp nilS).toArray [(0, ag (encDraft d)), (1, i64 a), (3, pv)] = some (encOp ⟨d, a, 0, ps⟩ pv).toArray := by
  rw [fill_wr (off := 0) (size := 35) (vl := encDraft d) rfl rfl (by simp) (by simp), encOp_set_draft,
    fill_wr (off := 35) (size := 1) (vl := [i64 a]) rfl rfl rfl (by simp), encOp_set_author,
    fill_wr (off := 37) (size := 1) (vl := [pv]) rfl (one_cells h) rfl (by simp), encOp_set_preds _ _ _ ps]
  rfl
theorem heads_has {s : DSet} : ∀ n ∈ heads s, has s.ops n = true := fun n hn => by
  rw [heads, mem_rising] at hn
  exact has_mem.2 (List.mem_filter.1 hn).1
theorem heads_le (s : DSet) : (heads s).length ≤ s.ops.length := by
  rw [heads, rising_length]
  exact Nat.le_trans (List.length_filter_le _ _) (by simp)
end Go.VK
