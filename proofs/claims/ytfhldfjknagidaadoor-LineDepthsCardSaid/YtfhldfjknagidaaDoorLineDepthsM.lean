/-
  LineDepths's card is proved: for every list of recipes the call answers true and leaves its argument as it reads; its one condition is that the two tables of the digest read as the program lays them, which the card ties to the program's text.
-/
import Derived.Test.YtfhldfjknagidaaDoorTie
import Derived.Test.YtfhldfjknagidaaDoorCards
import Derived.SevenTiedAt
import Derived.Test.YtfhldfjknagidaaDoorLineDepthsM7
import Derived.Test.YtfhldfjknagidaaDoorLineDepthsM10
set_option linter.unusedSimpArgs false
set_option linter.unusedVariables false
set_option linter.unnecessarySimpa false
set_option linter.all false
namespace Go.Proofs.YtfhldfjknagidaaDoor
open Go Go.VK Go.Tr Go.ChangeShapes Go.WideShapes Go.RowKit
set_option maxRecDepth 100000
theorem lineDepths_own : ownKnob Tryd.prog.godebug = none := by kernel_rfl
theorem lineDepths_lifted (os : Os) (started : os.Started) (H : Type) (enc : TypeId × Value → H) :
    ReturnsInHanded {} Tryd.checked os 9 .any (fun w args => (Rows.lineDepthsSpec.pre enc Tryd.prog Tryd.f9 [] false w args ∧ laidMetH Tryd.prog Rows.lineDepthsRow.laid w) ∧ sizedMet enc Tryd.prog Tryd.f9 (OpenSpec.ofChange Rows.lineDepthsSpec) false w args)
      (Rows.lineDepthsSpec.post enc Tryd.prog Tryd.f9 false true false false) := by
  refine returnsInHanded_of_change_and (C := Tryd.checked) (X := fun w _ => laidMetH Tryd.prog Rows.lineDepthsRow.laid w) (fun _ _ _ hh h => h.of_heap hh) lineDepths_own started (by kernel_rfl) Tryd.func9
    (ChangeSpec.witness_shaped (enc := enc) (C := Tryd.checked) (os := os) (X := fun w _ => laidMetH Tryd.prog Rows.lineDepthsRow.laid w) false (World.doorLaid Tryd.prog 400 os) #[.slice none 0 0] 8 rfl (World.shaped_of_RefB (by kernel_rfl) (by kernel_rfl)) (by kernel_rfl) (by kernel_rfl) (by kernel_rfl) (door_met os _)) ?_
  intro W base args ds gs before hval0 hW _ hsz hL _
  have hval : ∀ (j : Nat) t v, Tryd.f9.params[j]? = some t → args[j]? = some v → Value.okWide Tryd.prog W .any base t v := hval0
  have hW' := hW
  obtain ⟨p, q, hA0, hV, rfl, hfz, hnd⟩ := hW
  have hA : DataW.TrodAll enc Tryd.prog W 0 (fun _ => true) true Tryd.f9.params.toList args.toList ds p := hA0
  rw [Tryd.params9] at hA hval
  obtain ⟨v0, vs0, d0, ds0, p0, q0, hargs, rfl, rfl, h0, r0⟩ := trodAll_cons hA
  obtain ⟨rfl, rfl, rfl⟩ := trodAll_nil r0
  obtain rfl : args = #[v0] := Array.ext' (by simpa using hargs)
  obtain ⟨rfl, rfl⟩ := trodVars_none hV
  have hwt : ∀ n ∈ DataW.weightsEach Tryd.prog Tryd.f9.params.toList ([d0] ++ []), n ≤ reachBytes := by
    have hsz' : (DataW.weightsEach Tryd.prog (Tryd.f9.params.toList ++ []) ([d0] ++ [])).all (· ≤ reachBytes) = true := hsz
    rw [List.append_nil] at hsz'
    simpa using hsz'
  rw [Tryd.params9] at hwt
  have hw0 : ∀ n ∈ d0.weights Tryd.prog 22, n ≤ reachBytes := fun n hn => hwt n (by simp [DataW.weightsEach, hn])
  obtain ⟨_, xs, e0, hM, hx⟩ := arg_slice Tryd.underlying22 (hval 0 _ v0 rfl rfl) h0 hw0 dec_makes
  cases e0
  refine (lineDepths_cc (ghostOf W) (glob_of_laid hL) [] v0 xs  hM (fun p hp => (hx p hp).1) (fun p hp => (hx p hp).2) W (sat_ghost W)).mono ?_
  rintro e W' ⟨u, H', L', rfl, hle, hS, rfl, _⟩
  exact ⟨_, rfl, post_true laidOut (by rw [Tryd.params9]; intro t ht; simp at ht; subst ht; exact ⟨by kernel_rfl, Nat.le_of_ble_eq_true (by kernel_rfl)⟩) (tb := 4) rfl Tryd.underlying4 rfl rfl hW' (below_of_sat hle hS)⟩
theorem lineDepths_holds : Rows.LineDepthsSaid :=
  OpenClaim.holds_of_wide 9 Tryd.f9 rfl rfl rfl rfl rfl rfl rfl ⟨rfl, rfl, rfl, rfl, rfl⟩ rfl rfl rfl rfl rfl (by kernel_rfl) Tryd.func9 (by kernel_rfl)
    (of_decide_eq_true (by kernel_rfl)) (by unfold Func.isWrapper; rw [if_neg (of_decide_eq_false (by kernel_rfl))]; exact ⟨rfl, rfl⟩)
    (fun os started H enc _ => lineDepths_lifted os started H enc)
theorem lineDepths_card_holds : Rows.LineDepthsCardSaid :=
  Claim7.holds_tied_plain_at .later [] [.data, .data] true Rows.lineDepthsCard.stood.harness Rows.lineDepthsCard.stood.looks
    lineDepths_holds (fun _ h => by cases h) (by kernel_rfl) (fun _ h => by cases h) lineDepths_row_tie rfl ⟨rfl, rfl⟩ (by kernel_rfl) rfl
    (fun f fn hf hfn => by
      obtain rfl : f = 9 := Option.some.inj ((show Tryd.prog.funcNamed "tribunal/tribunallaw11.LineDepths" = some 9 by kernel_rfl).symm.trans hf) |>.symm
      obtain rfl : fn = Tryd.f9 := (Option.some.inj (Tryd.func9.symm.trans hfn)).symm
      exact ⟨by kernel_rfl, fun j t ht => by
        rw [Tryd.params9] at ht
        have h3 : t = 22 := by
          rcases j with _ | j
          · have h4 := ht; simp at h4; subst h4; simp
          · simp at ht
        rcases h3 with rfl
        · exact (show Tryd.prog.wantsStandIn 22 = false by kernel_rfl)⟩)
    (by kernel_rfl)
#print axioms lineDepths_card_holds
end Go.Proofs.YtfhldfjknagidaaDoor
