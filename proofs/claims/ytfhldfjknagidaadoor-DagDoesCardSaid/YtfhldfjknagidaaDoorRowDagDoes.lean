/-
  DagDoes's card is proved: for every list of recipes, order, name, author and draft the call answers true and leaves its arguments as they read; its one condition is that the two tables of the digest read as the program lays them, which the card ties to the program's text.
-/
import Derived.Test.YtfhldfjknagidaaDoorVKx
import Derived.Test.YtfhldfjknagidaaDoorVKs25
import Derived.Test.YtfhldfjknagidaaDoorTie
import Derived.Test.YtfhldfjknagidaaDoorCards
import Derived.SevenTiedAt
set_option linter.unusedSimpArgs false
set_option linter.unusedVariables false
set_option linter.unnecessarySimpa false
set_option linter.all false
namespace Go.Proofs.YtfhldfjknagidaaDoor
open Go Go.VK Go.Tr Go.ChangeShapes Go.WideShapes Go.RowKit
set_option maxRecDepth 100000
theorem dagDoes_own : ownKnob Tryd.prog.godebug = none := by kernel_rfl
theorem dagDoes_lifted (os : Os) (started : os.Started) (H : Type) (enc : TypeId × Value → H) :
    ReturnsInHanded {} Tryd.checked os 6 .any (fun w args => (Rows.dagDoesSpec.pre enc Tryd.prog Tryd.f6 [] false w args ∧ laidMetH Tryd.prog Rows.dagDoesRow.laid w) ∧ sizedMet enc Tryd.prog Tryd.f6 (OpenSpec.ofChange Rows.dagDoesSpec) false w args)
      (Rows.dagDoesSpec.post enc Tryd.prog Tryd.f6 false true false false) := by
  refine returnsInHanded_of_change_and (C := Tryd.checked) (X := fun w _ => laidMetH Tryd.prog Rows.dagDoesRow.laid w) (fun _ _ _ hh h => h.of_heap hh) dagDoes_own started (by kernel_rfl) Tryd.func6
    (ChangeSpec.witness_shaped (enc := enc) (C := Tryd.checked) (os := os) (X := fun w _ => laidMetH Tryd.prog Rows.dagDoesRow.laid w) false (World.doorLaid Tryd.prog 400 os) #[.slice none 0 0, .slice none 0 0, .agg #[.int .u8 0, .int .u8 0, .int .u8 0, .int .u8 0, .int .u8 0, .int .u8 0, .int .u8 0, .int .u8 0, .int .u8 0, .int .u8 0, .int .u8 0, .int .u8 0, .int .u8 0, .int .u8 0, .int .u8 0, .int .u8 0, .int .u8 0, .int .u8 0, .int .u8 0, .int .u8 0, .int .u8 0, .int .u8 0, .int .u8 0, .int .u8 0, .int .u8 0, .int .u8 0, .int .u8 0, .int .u8 0, .int .u8 0, .int .u8 0, .int .u8 0, .int .u8 0], .int .i64 0, .agg #[.int .i64 0, .string ⟨#[]⟩, .string ⟨#[]⟩, .int .u8 0, .int .u8 0, .int .u8 0, .int .u8 0, .int .u8 0, .int .u8 0, .int .u8 0, .int .u8 0, .int .u8 0, .int .u8 0, .int .u8 0, .int .u8 0, .int .u8 0, .int .u8 0, .int .u8 0, .int .u8 0, .int .u8 0, .int .u8 0, .int .u8 0, .int .u8 0, .int .u8 0, .int .u8 0, .int .u8 0, .int .u8 0, .int .u8 0, .int .u8 0, .int .u8 0, .int .u8 0, .int .u8 0, .int .u8 0, .int .u8 0, .int .u8 0]] 8 rfl (World.shaped_of_RefB (by kernel_rfl) (by kernel_rfl)) (by kernel_rfl) (by kernel_rfl) (by kernel_rfl) (door_met os _)) ?_
  intro W base args ds gs before hval0 hW _ hsz hL _
  have hval : ∀ (j : Nat) t v, Tryd.f6.params[j]? = some t → args[j]? = some v → Value.okWide Tryd.prog W .any base t v := hval0
  have hW' := hW
  obtain ⟨p, q, hA0, hV, rfl, hfz, hnd⟩ := hW
  have hA : DataW.TrodAll enc Tryd.prog W 0 (fun _ => true) true Tryd.f6.params.toList args.toList ds p := hA0
  rw [Tryd.params6] at hA hval
  obtain ⟨v0, vs0, d0, ds0, p0, q0, hargs, rfl, rfl, h0, r0⟩ := trodAll_cons hA
  obtain ⟨v1, vs1, d1, ds1, p1, q1, rfl, rfl, rfl, h1, r1⟩ := trodAll_cons r0
  obtain ⟨v2, vs2, d2, ds2, p2, q2, rfl, rfl, rfl, h2, r2⟩ := trodAll_cons r1
  obtain ⟨v3, vs3, d3, ds3, p3, q3, rfl, rfl, rfl, h3, r3⟩ := trodAll_cons r2
  obtain ⟨v4, vs4, d4, ds4, p4, q4, rfl, rfl, rfl, h4, r4⟩ := trodAll_cons r3
  obtain ⟨rfl, rfl, rfl⟩ := trodAll_nil r4
  obtain rfl : args = #[v0, v1, v2, v3, v4] := Array.ext' (by simpa using hargs)
  obtain ⟨rfl, rfl⟩ := trodVars_none hV
  have hwt : ∀ n ∈ DataW.weightsEach Tryd.prog Tryd.f6.params.toList ([d0, d1, d2, d3, d4] ++ []), n ≤ reachBytes := by
    have hsz' : (DataW.weightsEach Tryd.prog (Tryd.f6.params.toList ++ []) ([d0, d1, d2, d3, d4] ++ [])).all (· ≤ reachBytes) = true := hsz
    rw [List.append_nil] at hsz'
    simpa using hsz'
  rw [Tryd.params6] at hwt
  have hw0 : ∀ n ∈ d0.weights Tryd.prog 22, n ≤ reachBytes := fun n hn => hwt n (by simp [DataW.weightsEach, hn])
  obtain ⟨_, xs, e0, hM, hx⟩ := arg_slice Tryd.underlying22 (hval 0 _ v0 rfl rfl) h0 hw0 dec_makes
  cases e0
  have hw1 : ∀ n ∈ d1.weights Tryd.prog 23, n ≤ reachBytes := fun n hn => hwt n (by simp [DataW.weightsEach, hn])
  obtain ⟨_, ns, e1, hI, hIr⟩ := arg_slice Tryd.underlying23 (hval 1 _ v1 rfl rfl) h1 hw1 dec_ints
  cases e1
  have hw2 : ∀ n ∈ d2.weights Tryd.prog 33, n ≤ reachBytes := fun n hn => hwt n (by simp [DataW.weightsEach, hn])
  obtain ⟨c2, rfl, n2, e2⟩ := arg_array Tryd.underlying33 (hval 2 _ v2 rfl rfl) h2 hw2 (dec_b32 Tryd.underlying33 Tryd.underlying5 c5 (by kernel_rfl))
  obtain rfl : c2 = (encId n2).toArray := Array.ext' e2
  have hw3 : ∀ n ∈ d3.weights Tryd.prog 3, n ≤ reachBytes := fun n hn => hwt n (by simp [DataW.weightsEach, hn])
  obtain ⟨i3, rfl, rfl, rfl, wf3⟩ := open_int Tryd.underlying3 (hval 3 _ v3 rfl rfl) h3
  have hi3 := bounds_i64 wf3
  have hw4 : ∀ n ∈ d4.weights Tryd.prog 36, n ≤ reachBytes := fun n hn => hwt n (by simp [DataW.weightsEach, hn])
  obtain ⟨c4, rfl, dr4, e4, hdr4⟩ := arg_struct Tryd.underlying36 (hval 4 _ v4 rfl rfl) h4 hw4 dec_draft
  obtain rfl : c4 = (encDraft dr4).toArray := Array.ext' e4
  refine (dagDoes_cc (ghostOf W) (glob_of_laid hL) [] v0 v1 xs ns n2 i3 dr4 hM (fun p hp => (hx p hp).1) (fun p hp => (hx p hp).2) hI W (sat_ghost W)).mono ?_
  rintro e W' ⟨u, H', L', rfl, hle, hS, rfl, _⟩
  exact ⟨_, rfl, post_true laidOut (by rw [Tryd.params6]; intro t ht; simp at ht; rcases ht with rfl | rfl | rfl | rfl | rfl <;> exact ⟨by kernel_rfl, Nat.le_of_ble_eq_true (by kernel_rfl)⟩) (tb := 4) rfl Tryd.underlying4 rfl rfl hW' (below_of_sat hle hS)⟩
theorem dagDoes_holds : Rows.DagDoesSaid :=
  OpenClaim.holds_of_wide 6 Tryd.f6 rfl rfl rfl rfl rfl rfl rfl ⟨rfl, rfl, rfl, rfl, rfl⟩ rfl rfl rfl rfl rfl (by kernel_rfl) Tryd.func6 (by kernel_rfl)
    (of_decide_eq_true (by kernel_rfl)) (by unfold Func.isWrapper; rw [if_neg (of_decide_eq_false (by kernel_rfl))]; exact ⟨rfl, rfl⟩)
    (fun os started H enc _ => dagDoes_lifted os started H enc)
theorem dagDoes_card_holds : Rows.DagDoesCardSaid :=
  Claim7.holds_tied_plain_at .later [] [.data, .data] true Rows.dagDoesCard.stood.harness Rows.dagDoesCard.stood.looks
    dagDoes_holds (fun _ h => by cases h) (by kernel_rfl) (fun _ h => by cases h) dagDoes_row_tie rfl ⟨rfl, rfl⟩ (by kernel_rfl) rfl
    (fun f fn hf hfn => by
      obtain rfl : f = 6 := Option.some.inj ((show Tryd.prog.funcNamed "tribunal/tribunallaw10.DagDoes" = some 6 by kernel_rfl).symm.trans hf) |>.symm
      obtain rfl : fn = Tryd.f6 := (Option.some.inj (Tryd.func6.symm.trans hfn)).symm
      exact ⟨by kernel_rfl, fun j t ht => by
        rw [Tryd.params6] at ht
        have h3 : t = 22 ∨ t = 23 ∨ t = 33 ∨ t = 3 ∨ t = 36 := by
          rcases j with _ | _ | _ | _ | _ | j
          · have h4 := ht; simp at h4; subst h4; simp
          · have h4 := ht; simp at h4; subst h4; simp
          · have h4 := ht; simp at h4; subst h4; simp
          · have h4 := ht; simp at h4; subst h4; simp
          · have h4 := ht; simp at h4; subst h4; simp
          · simp at ht
        rcases h3 with rfl | rfl | rfl | rfl | rfl
        · exact (show Tryd.prog.wantsStandIn 22 = false by kernel_rfl)
        · exact (show Tryd.prog.wantsStandIn 23 = false by kernel_rfl)
        · exact (show Tryd.prog.wantsStandIn 33 = false by kernel_rfl)
        · exact (show Tryd.prog.wantsStandIn 3 = false by kernel_rfl)
        · exact (show Tryd.prog.wantsStandIn 36 = false by kernel_rfl)⟩)
    (by kernel_rfl)
#print axioms dagDoes_card_holds
end Go.Proofs.YtfhldfjknagidaaDoor
