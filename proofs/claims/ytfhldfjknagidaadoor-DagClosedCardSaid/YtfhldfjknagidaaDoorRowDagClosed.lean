/-
  DagClosed's card is proved: for every list of recipes and every order, the call answers true and leaves its arguments as they read; its one condition is that the two tables of the digest read as the program lays them, which the card ties to the program's text.
-/
import Derived.Test.YtfhldfjknagidaaDoorVKx
import Derived.Test.YtfhldfjknagidaaDoorVKs24
import Derived.Test.YtfhldfjknagidaaDoorTie
import Derived.Test.YtfhldfjknagidaaDoorCards
import Derived.SevenTiedAt
set_option linter.unusedSimpArgs false
set_option linter.unusedVariables false
set_option linter.unnecessarySimpa false
set_option linter.all false
namespace Go.Proofs.YtfhldfjknagidaaDoor
open Go Go.VK Go.Tr Go.ChangeShapes Go.WideShapes Go.RowKit
set_option maxRecDepth 100000
theorem own : ownKnob Tryd.prog.godebug = none := by kernel_rfl

theorem dagClosed_lifted (os : Os) (started : os.Started) (H : Type) (enc : TypeId × Value → H) :
    ReturnsInHanded {} Tryd.checked os 3 .any (fun w args => (Rows.dagClosedSpec.pre enc Tryd.prog Tryd.f3 [] false w args ∧ laidMetH Tryd.prog Rows.dagClosedRow.laid w) ∧ sizedMet enc Tryd.prog Tryd.f3 (OpenSpec.ofChange Rows.dagClosedSpec) false w args)
      (Rows.dagClosedSpec.post enc Tryd.prog Tryd.f3 false true false false) := by
  refine returnsInHanded_of_change_and (C := Tryd.checked) (X := fun w _ => laidMetH Tryd.prog Rows.dagClosedRow.laid w) (fun _ _ _ hh h => h.of_heap hh) own started (by kernel_rfl) Tryd.func3
    (ChangeSpec.witness_shaped (enc := enc) (C := Tryd.checked) (os := os) (X := fun w _ => laidMetH Tryd.prog Rows.dagClosedRow.laid w) false (World.doorLaid Tryd.prog 400 os) #[.slice none 0 0, .slice none 0 0] 8 rfl (World.shaped_of_RefB (by kernel_rfl) (by kernel_rfl)) (by kernel_rfl) (by kernel_rfl) (by kernel_rfl) (door_met os _)) ?_
  intro W base args ds gs before hval0 hW _ hsz hL _
  have hval : ∀ (j : Nat) t v, Tryd.f3.params[j]? = some t → args[j]? = some v → Value.okWide Tryd.prog W .any base t v := hval0
  have hW' := hW
  obtain ⟨p, q, hA0, hV, rfl, hfz, hnd⟩ := hW
  have hA : DataW.TrodAll enc Tryd.prog W 0 (fun _ => true) true Tryd.f3.params.toList args.toList ds p := hA0
  rw [Tryd.params3] at hA hval
  obtain ⟨v0, v1, d0, d1, p0, p1, rfl, rfl, rfl, h0, h1⟩ := trodAll_two hA
  obtain ⟨rfl, rfl⟩ := trodVars_none hV
  have hwt : ∀ n ∈ DataW.weightsEach Tryd.prog Tryd.f3.params.toList ([d0, d1] ++ []), n ≤ reachBytes := by
    have hsz' : (DataW.weightsEach Tryd.prog (Tryd.f3.params.toList ++ []) ([d0, d1] ++ [])).all (· ≤ reachBytes) = true := hsz
    rw [List.append_nil] at hsz'
    simpa using hsz'
  rw [Tryd.params3] at hwt
  have hw0 : ∀ n ∈ d0.weights Tryd.prog 22, n ≤ reachBytes := fun n hn => hwt n (by simp [DataW.weightsEach, hn])
  have hw1 : ∀ n ∈ d1.weights Tryd.prog 23, n ≤ reachBytes := fun n hn => hwt n (by simp [DataW.weightsEach, hn])
  obtain ⟨_, xs, e0, hM, hx⟩ := arg_slice Tryd.underlying22 (hval 0 _ v0 rfl rfl) h0 hw0 dec_makes
  cases e0
  obtain ⟨_, ns, e1, hI, _⟩ := arg_slice Tryd.underlying23 (hval 1 _ v1 rfl rfl) h1 hw1 dec_ints
  cases e1
  refine (dagClosed_cc (ghostOf W) (glob_of_laid hL) [] v0 v1 xs ns hM (fun p hp => (hx p hp).1) (fun p hp => (hx p hp).2) hI W (sat_ghost W)).mono ?_
  rintro e W' ⟨u, H', L', rfl, hle, hS, rfl, _⟩
  exact ⟨_, rfl, post_true laidOut (by rw [Tryd.params3]; intro t ht; simp at ht; rcases ht with rfl | rfl <;> exact ⟨by kernel_rfl, Nat.le_of_ble_eq_true (by kernel_rfl)⟩) (tb := 4) rfl Tryd.underlying4 rfl rfl hW' (below_of_sat hle hS)⟩
theorem dagClosed_holds : Rows.DagClosedSaid :=
  OpenClaim.holds_of_wide 3 Tryd.f3 rfl rfl rfl rfl rfl rfl rfl ⟨rfl, rfl, rfl, rfl, rfl⟩ rfl rfl rfl rfl rfl (by kernel_rfl) Tryd.func3 (by kernel_rfl)
    (of_decide_eq_true (by kernel_rfl)) (by unfold Func.isWrapper; rw [if_neg (of_decide_eq_false (by kernel_rfl))]; exact ⟨rfl, rfl⟩)
    (fun os started H enc _ => dagClosed_lifted os started H enc)
theorem dagClosed_card_holds : Rows.DagClosedCardSaid :=
  Claim7.holds_tied_plain_at .later [] [.data, .data] true (true, "688d132e0d6682305923246129ef42487e9b3b70d178a611f0944ec099482894") false
    dagClosed_holds (fun _ h => by cases h) (by kernel_rfl) (fun _ h => by cases h) dagClosed_row_tie rfl ⟨rfl, rfl⟩ (by kernel_rfl) rfl
    (fun f fn hf hfn => by
      obtain rfl : f = 3 := Option.some.inj ((show Tryd.prog.funcNamed "tribunal/tribunallaw10.DagClosed" = some 3 by kernel_rfl).symm.trans hf) |>.symm
      obtain rfl : fn = Tryd.f3 := (Option.some.inj (Tryd.func3.symm.trans hfn)).symm
      exact ⟨by kernel_rfl, fun j t ht => by
        rw [Tryd.params3] at ht
        have h3 : t = 22 ∨ t = 23 := by
          rcases j with _ | _ | j
          · exact .inl (by simpa using ht.symm)
          · exact .inr (by simpa using ht.symm)
          · simp at ht
        rcases h3 with rfl | rfl
        · exact (show Tryd.prog.wantsStandIn 22 = false by kernel_rfl)
        · exact (show Tryd.prog.wantsStandIn 23 = false by kernel_rfl)⟩)
    (by kernel_rfl)
#print axioms dagClosed_card_holds
end Go.Proofs.YtfhldfjknagidaaDoor
