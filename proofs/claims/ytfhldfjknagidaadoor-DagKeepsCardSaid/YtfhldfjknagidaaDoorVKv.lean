/-
  What the document tells of two operations (plain).
-/
import Derived.Test.YtfhldfjknagidaaDoorVKq
set_option linter.unusedSimpArgs false
set_option linter.unusedVariables false
namespace Go.Tr
set_option maxRecDepth 100000
def keyK : Bs := [107]
def drA : Draft := ⟨1, keyK, [], Nm.zero⟩
def drB : Draft := ⟨3, keyK, [], Nm.zero⟩
def opOne : POp := ⟨drA, 1, 1, []⟩
def opTwo : POp := ⟨drB, 2, 2, [nameOf opOne]⟩
theorem one_ne_two : nameOf opOne ≠ nameOf opTwo := by
  intro h
  have h2 : (nameOf opOne).bytes.getD 0 0 = (nameOf opTwo).bytes.getD 0 0 := by rw [h]
  revert h2
  decide +kernel
theorem cmp_one_two : (cmp (nameOf opOne) (nameOf opTwo) < 0) ∨ (cmp (nameOf opTwo) (nameOf opOne) < 0) := by decide +kernel
attribute [local irreducible] Go.Tr.sha
def setOne : DSet := ⟨[(nameOf opOne, opOne)], []⟩
def setWait : DSet := ⟨[], [(nameOf opTwo, opTwo)]⟩
def setTwo : DSet := ⟨[(nameOf opOne, opOne), (nameOf opTwo, opTwo)], []⟩
theorem goodA : goodDraft drA = true := by decide
theorem goodB : goodDraft drB = true := by decide
theorem good_one : good opOne = true := by decide
theorem good_two : good opTwo = true := by
  simp [good, opTwo, goodB, risingB]
theorem heads_empty : heads DSet.empty = [] := rfl
theorem alive_1 : next DSet.empty 1 drA = (opOne, 0) := by
  rw [next, if_neg (by rw [goodA]; decide), if_neg (by rw [heads_empty]; decide)]
  rfl
theorem whole_nil (s : DSet) (d : Draft) (a k : Int) : whole s ⟨d, a, k, []⟩ = true := rfl
theorem alive_2 : take DSet.empty opOne = (setOne, [nameOf opOne], 0) := by
  rw [take, if_neg (by rw [good_one]; decide), if_neg (by simp [has, DSet.empty]), if_neg (by rw [opOne, whole_nil]; decide), if_neg (by rw [opOne]; decide)]
  rfl
theorem heads_one : heads setOne = [nameOf opOne] := by
  simp [heads, setOne, behind, opOne, rising, ins]
theorem depth_one (s : DSet) (h : Tr.get s.ops (nameOf opOne) = some opOne) : depthOf s [nameOf opOne] = 2 := by
  simp only [depthOf, deepest, List.foldl_cons, List.foldl_nil, h]
  decide
theorem get_one : Tr.get setOne.ops (nameOf opOne) = some opOne := by simp [Tr.get, setOne]
theorem alive_3 : next setOne 2 drB = (opTwo, 0) := by
  rw [next, if_neg (by rw [goodB]; decide), if_neg (by rw [heads_one]; decide), heads_one, depth_one _ get_one]
  rfl
theorem alive_4 : take DSet.empty opTwo = (setWait, [], 0) := by
  rw [take, if_neg (by rw [good_two]; decide), if_neg (by simp [has, DSet.empty]), if_pos (by simp [whole, opTwo, has, DSet.empty])]
  rfl
theorem alive_5 : take setWait opOne = (setTwo, [nameOf opOne, nameOf opTwo], 0) := by
  have hne := one_ne_two
  rw [take, if_neg (by rw [good_one]; decide), if_neg (by simp [has, setWait, Ne.symm hne]), if_neg (by rw [opOne, whole_nil]; decide), if_neg (by rw [opOne]; decide)]
  have h1 : (⟨setWait.ops ++ [(nameOf opOne, opOne)], setWait.wait⟩ : DSet) = ⟨[(nameOf opOne, opOne)], [(nameOf opTwo, opTwo)]⟩ := rfl
  have hw : ∀ w, whole ⟨[(nameOf opOne, opOne)], w⟩ opTwo = true := by intro w; simp [whole, opTwo, has]
  have hb : bestOf ⟨[(nameOf opOne, opOne)], [(nameOf opTwo, opTwo)]⟩ [(nameOf opTwo, opTwo)] 0 none = some (0, nameOf opTwo) := by
    simp [bestOf, hw]
  have hd : opTwo.depth = depthOf ⟨[(nameOf opOne, opOne)], []⟩ opTwo.preds := by
    exact (depth_one ⟨[(nameOf opOne, opOne)], []⟩ get_one).symm
  have hs : settle (setWait.wait.length + 1) ⟨setWait.ops ++ [(nameOf opOne, opOne)], setWait.wait⟩ [nameOf opOne] = (setTwo, [nameOf opOne, nameOf opTwo]) := by
    rw [h1, settle, hb]
    exact if_pos hd
  simp only [hs]
theorem alive_6 : (heads setTwo).length = 1 := by
  have hne := one_ne_two
  have h1 : behind setTwo (nameOf opOne) = true := by simp [behind, setTwo, opTwo]
  have h2 : behind setTwo (nameOf opTwo) = false := by
    have e1 : opOne.preds = [] := rfl
    have e2 : opTwo.preds = [nameOf opOne] := rfl
    simp [behind, setTwo, e1, e2, hne]
  have : (setTwo.ops.map (·.1)).filter (fun n => !behind setTwo n) = [nameOf opTwo] := by
    show ([nameOf opOne, nameOf opTwo] : List Nm).filter _ = _
    simp [h1, h2]
  rw [heads, this]; rfl
end Go.Tr
