/-
  A region that draws its order is walked once, in one order, where what only looks may go ahead.
-/
import Derived.Test.YtfhldfjknagidaaDoorVKa
set_option linter.unusedSimpArgs false
set_option linter.unusedVariables false
namespace Go.VK
open Region (wanted)

/-! ## Which orders can come -/
def maskOf (acc : List Nat) : List Edge → Nat
  | [] => 0
  | e :: es => (if Region.binds .any e then 2 ^ e.on ||| acc.getD e.on 0 else 0) ||| maskOf acc es
def masks : List Oper → List Nat → List Nat
  | [], acc => acc
  | o :: r, acc => masks r (acc ++ [maskOf acc o.after.toList])

theorem maskOf_spec (acc : List Nat) (j : Nat) : ∀ es : List Edge, (maskOf acc es).testBit j = true →
    ∃ e ∈ es, Region.binds .any e = true ∧ (e.on = j ∨ (e.on < acc.length ∧ (acc.getD e.on 0).testBit j = true))
  | [], h => by simp [maskOf] at h
  | e :: es, h => by
    simp only [maskOf, Nat.testBit_or, Bool.or_eq_true] at h
    rcases h with h | h
    · cases hb : Region.binds .any e with
      | false => simp [hb] at h
      | true =>
        simp only [hb, if_true, Nat.testBit_or, Bool.or_eq_true, Nat.testBit_two_pow] at h
        refine ⟨e, List.mem_cons_self, hb, ?_⟩
        rcases h with h | h
        · exact .inl (by simpa using h)
        · refine .inr ⟨?_, h⟩
          rcases Nat.lt_or_ge e.on acc.length with hl | hl
          · exact hl
          · simp [List.getElem?_eq_none hl] at h
    · obtain ⟨e', he', h1⟩ := maskOf_spec acc j es h
      exact ⟨e', List.mem_cons_of_mem _ he', h1⟩

theorem masks_prefix : ∀ (ops : List Oper) (acc : List Nat), ∃ more, masks ops acc = acc ++ more
  | [], acc => ⟨[], by simp [masks]⟩
  | o :: r, acc => by
    obtain ⟨m, hm⟩ := masks_prefix r (acc ++ [maskOf acc o.after.toList])
    exact ⟨_, by rw [masks, hm, List.append_assoc]⟩

theorem masks_at : ∀ (ops : List Oper) (acc : List Nat) (i : Nat) (o : Oper), ops[i]? = some o →
    ∃ pre, pre.length = acc.length + i ∧ (∃ more, masks ops acc = pre ++ more) ∧ (masks ops acc).getD (acc.length + i) 0 = maskOf pre o.after.toList
  | [], _, _, _, h => by simp at h
  | o' :: r, acc, 0, o, h => by
    simp at h; subst h
    obtain ⟨m, hm⟩ := masks_prefix r (acc ++ [maskOf acc o'.after.toList])
    refine ⟨acc, by simp, ⟨_, by rw [masks, hm, List.append_assoc]⟩, ?_⟩
    rw [masks, hm]
    simp
  | o' :: r, acc, i + 1, o, h => by
    obtain ⟨pre, h1, h2, h3⟩ := masks_at r (acc ++ [maskOf acc o'.after.toList]) i o (by simpa using h)
    refine ⟨pre, by rw [h1]; simp; omega, h2, ?_⟩
    have : acc.length + (i + 1) = (acc ++ [maskOf acc o'.after.toList]).length + i := by simp; omega
    rw [this, masks]; exact h3

theorem masks_spec {ops : List Oper} {i j : Nat} {o : Oper} (ho : ops[i]? = some o) (h : ((masks ops []).getD i 0).testBit j = true) :
    ∃ e ∈ o.after, Region.binds .any e = true ∧ (e.on = j ∨ (e.on < i ∧ ((masks ops []).getD e.on 0).testBit j = true)) := by
  obtain ⟨pre, h1, ⟨more, h2⟩, h3⟩ := masks_at ops [] i o ho
  simp only [List.length_nil, Nat.zero_add] at h1 h3
  rw [h3] at h
  obtain ⟨e, he, hb, hj⟩ := maskOf_spec pre j _ h
  refine ⟨e, by simpa using he, hb, hj.imp id fun ⟨hl, ht⟩ => ⟨by omega, ?_⟩⟩
  rw [h2]
  simp only [List.getD_eq_getElem?_getD] at ht ⊢
  rwa [List.getElem?_append_left hl]

def Closed (ops : List Oper) (listed : Array Bool) : Prop :=
  ∀ i o, ops[i]? = some o → listed.getD i false = true → ∀ e ∈ o.after, Region.binds .any e = true → listed.getD e.on false = true

theorem Closed.reach {ops : List Oper} {listed : Array Bool} (hc : Closed ops listed) (j : Nat) : ∀ (i : Nat) (o : Oper), ops[i]? = some o →
    (∀ e ∈ o.after, Region.binds .any e = true → listed.getD e.on false = true) → ((masks ops []).getD i 0).testBit j = true → listed.getD j false = true := by
  intro i
  induction i using Nat.strongRecOn with
  | _ i ih =>
    intro o ho hall ht
    obtain ⟨e, he, hb, hj⟩ := masks_spec ho ht
    rcases hj with hj | ⟨hlt, ht'⟩
    · rw [← hj]; exact hall e he hb
    · have hlis := hall e he hb
      have hlen : i < ops.length := (List.getElem?_eq_some_iff.1 ho).1
      have ho' : ops[e.on]? = some ops[e.on] := List.getElem?_eq_getElem (by omega)
      exact ih e.on hlt _ ho' (fun e' he' hb' => hc e.on _ ho' hlis e' he' hb') ht'

/-! ## Moving what only looks -/
section
variable {P : Program} {ops : List Oper} {H0 : Gh} {L0 : Chunks} {K : Act → World → Prop}

def Yl (P : Program) (ops : List Oper) (H0 : Gh) (L0 : Chunks) (o : Oper) (v : Value) (a : Act) : Prop :=
  (wanted o (yielded ops.toArray a.tmps) = true ∧ ∀ w', Sat w' H0 L0 → (execOp a.eval o).run P w' = .ok (.value v) w') ∨
  (wanted o (yielded ops.toArray a.tmps) = false ∧ v = undef)

theorem run_true {j : Nat} {r : List (Fl × Nat)} {a : Act} {w : World} :
    Run P ops (some (H0, L0)) K ((.mv, j) :: r) a w ↔ ∃ v, Yl P ops H0 L0 (nth ops j) v a ∧ Run P ops (some (H0, L0)) K r (a.put (nth ops j).dst v) w := by
  simp only [Run, Stable]
  constructor
  · intro h
    split at h
    · rename_i hw
      obtain ⟨v, h1, h2⟩ := h
      exact ⟨v, .inl ⟨hw, h1⟩, h2⟩
    · rename_i hw
      exact ⟨undef, .inr ⟨by simpa using hw, rfl⟩, h⟩
  · rintro ⟨v, ⟨hw, h1⟩ | ⟨hw, rfl⟩, h2⟩
    · rw [if_pos hw]; exact ⟨v, h1, h2⟩
    · rw [if_neg (by simp [hw])]; exact h2

theorem Yl.of_same {o : Oper} {v : Value} {a a' : Act} (hy : Yl P ops H0 L0 o v a) (he : execOp a'.eval o = execOp a.eval o)
    (hw : wanted o (yielded ops.toArray a'.tmps) = wanted o (yielded ops.toArray a.tmps)) : Yl P ops H0 L0 o v a' := by
  unfold Yl at *
  rw [he, hw]
  exact hy

theorem run_swap {i j : Nat} {mi : Fl} (hmi : mi ≠ .fin) {r : List (Fl × Nat)} {a : Act} {w : World} (hap : (nth ops j).apart ops.toArray (nth ops i) = true)
    (hsi : ∀ cs b, (nth ops i).op ≠ .select cs b) (hsj : ∀ cs b, (nth ops j).op ≠ .select cs b)
    (h : Run P ops (some (H0, L0)) K ((.mv, j) :: (mi, i) :: r) a w) : Run P ops (some (H0, L0)) K ((mi, i) :: (.mv, j) :: r) a w := by
  generalize hoj : nth ops j = oj at hap hsj
  generalize hoi : nth ops i = oi at hap hsi
  obtain ⟨h1, h2, h3⟩ := Oper.apart_spec hap
  obtain ⟨vj, hy, h⟩ := run_true.1 h
  rw [hoj] at hy h
  have keep : ∀ u, Yl P ops H0 L0 oj vj (a.put oi.dst u) := fun u =>
    hy.of_same (execOp_put oj hsj a oi.dst u h3) (wanted_put oj a oi.dst u h3)
  cases mi with
  | fin => exact absurd rfl hmi
  | mv =>
    obtain ⟨vi, hyi, h⟩ := run_true.1 h
    rw [hoi] at hyi h
    refine run_true.2 ⟨vi, ?_, run_true.2 ⟨vj, ?_, ?_⟩⟩
    · rw [hoi]
      exact hyi.of_same (execOp_put oi hsi a oj.dst vj h1).symm (wanted_put oi a oj.dst vj h1).symm
    · rw [hoi, hoj]; exact keep vi
    · rw [hoi, hoj, ← Act.put_comm a vj vi h2]; exact h
  | nm =>
    simp only [Run, hoi] at h
    rw [wanted_put oi a oj.dst vj h1] at h
    show Run P ops (some (H0, L0)) K ((.nm, i) :: (.mv, j) :: r) a w
    unfold Run
    simp only [hoi]
    split
    · rename_i hw
      rw [if_pos hw] at h
      unfold One Oper.wp at *
      rw [execOp_put oi hsi a oj.dst vj h1] at h
      generalize (execOp a.eval oi).run P w = res at *
      cases res with
      | ok nx w' =>
        cases nx <;> simp only [Oper.upon] at h ⊢
        case value u => exact ⟨h.1, run_true.2 ⟨vj, by rw [hoj]; exact keep u, by rw [hoj, ← Act.put_comm a vj u h2]; exact h.2⟩⟩
        case skip => exact ⟨h.1, run_true.2 ⟨vj, by rw [hoj]; exact keep _, by rw [hoj, ← Act.put_comm a vj undef h2]; exact h.2⟩⟩
        case defer d =>
          refine ⟨h.1, run_true.2 ⟨vj, ?_, ?_⟩⟩
          · rw [hoj]
            have hyd : Yl P ops H0 L0 oj vj { a with defers := d :: a.defers } := hy.of_same rfl rfl
            exact hyd.of_same (execOp_put oj hsj _ oi.dst _ h3) (wanted_put oj _ oi.dst _ h3)
          · rw [hoj, ← Act.put_comm _ vj undef h2, ← Act.put_defers]
            exact h.2
        case enter f args =>
          refine Calls.mono h fun e w'' he => ?_
          cases e with
          | returned u => exact ⟨he.1, run_true.2 ⟨vj, by rw [hoj]; exact keep u, by rw [hoj, ← Act.put_comm a vj u h2]; exact he.2⟩⟩
          | panicked c => exact he
          | outgrown => exact he
        case row row args => exact Rows.mono h fun u w'' he => ⟨he.1, run_true.2 ⟨vj, by rw [hoj]; exact keep u, by rw [hoj, ← Act.put_comm a vj u h2]; exact he.2⟩⟩
      | halt x w' =>
        cases x <;> simp only [Oper.upon] at h ⊢
    · rename_i hw
      rw [if_neg hw] at h
      exact run_true.2 ⟨vj, by rw [hoj]; exact keep _, by rw [hoj, ← Act.put_comm a vj undef h2]; exact h⟩

theorem run_pull {i : Nat} {mi : Fl} {post : List (Fl × Nat)} (hsel : ∀ k cs b, (nth ops k).op ≠ .select cs b) : ∀ (pre : List (Fl × Nat)) (a : Act) (w : World),
    (∀ p ∈ pre, p.1 = .mv ∧ mi ≠ .fin ∧ (nth ops p.2).apart ops.toArray (nth ops i) = true) →
    Run P ops (some (H0, L0)) K (pre ++ (mi, i) :: post) a w → Run P ops (some (H0, L0)) K ((mi, i) :: (pre ++ post)) a w
  | [], _, _, _, h => h
  | (mj, j) :: pre, a, w, hp, h => by
    obtain ⟨hm, hmi, hap⟩ := hp (mj, j) List.mem_cons_self
    simp only at hm hap
    subst hm
    obtain ⟨v, hy, h⟩ := run_true.1 h
    have h' := run_pull hsel pre _ w (fun p hp' => hp p (List.mem_cons_of_mem _ hp')) h
    exact run_swap hmi hap (hsel i) (hsel j) (run_true.2 ⟨v, hy, h'⟩)

/-- What must hold of two that stand one behind the other. -/
def Pair (ops : List Oper) (p q : Fl × Nat) : Prop :=
  (p.1 = .fin → q.1 = .fin) ∧ (((masks ops []).getD q.2 0).testBit p.2 = true ∨ (p.1 = .mv ∧ q.1 ≠ .fin ∧ (nth ops p.2).apart ops.toArray (nth ops q.2) = true))
def PairOk (ops : List Oper) : List (Fl × Nat) → Prop
  | [] => True
  | p :: r => (∀ q ∈ r, Pair ops p q) ∧ PairOk ops r

theorem PairOk.split {ops : List Oper} {q : Fl × Nat} {post : List (Fl × Nat)} : ∀ (pre : List (Fl × Nat)), PairOk ops (pre ++ q :: post) →
    (∀ p ∈ pre, Pair ops p q) ∧ (∀ p ∈ post, Pair ops q p) ∧ PairOk ops (pre ++ post)
  | [], h => ⟨fun _ hp => by simp at hp, h.1, h.2⟩
  | x :: pre, h => by
    obtain ⟨h1, h2, h3⟩ := PairOk.split pre h.2
    refine ⟨fun p hp => ?_, h2, fun q' hq' => ?_, h3⟩
    · rcases List.mem_cons.1 hp with rfl | hp
      · exact h.1 q (by simp)
      · exact h1 p hp
    · refine h.1 q' ?_
      rcases List.mem_append.1 hq' with h' | h'
      · exact List.mem_append_left _ h'
      · exact List.mem_append_right _ (List.mem_cons_of_mem _ h')

theorem any_of_run {Q : Exit → Act → World → Prop} (hsel : ∀ k cs b, (nth ops k).op ≠ .select cs b)
    (hlow : ∀ i o, ops[i]? = some o → ∀ e ∈ o.after, Region.binds .any e = true → e.on < i) : ∀ (fuel : Nat) (r : List (Fl × Nat)) (listed : Array Bool) (a : Act) (w : World),
    r.length = fuel → (∀ p ∈ r, p.2 < ops.length) → (r.map (·.2)).Nodup → (∀ i o, ops[i]? = some o → (listed.getD i true = false ↔ i ∈ r.map (·.2))) → Closed ops listed → listed.size = ops.length →
    PairOk ops r → ((∃ p ∈ r, p.1 ≠ .fin) → Keeps (some (H0, L0)) w) → Run P ops (some (H0, L0)) (Q .normal) r a w → wpAny P .any ops.toArray Q fuel listed a w := by
  intro fuel
  induction fuel with
  | zero =>
    intro r listed a w hl _ _ hun _ _ _ _ h
    have hr : r = [] := List.length_eq_zero_iff.1 hl
    subst hr
    refine ⟨?_, h⟩
    apply List.eq_nil_iff_forall_not_mem.2
    intro i hi
    obtain ⟨h0, o, ho, _⟩ := mem_ready.1 hi
    have := (hun i o (by simpa using ho)).1 h0
    simp at this
  | succ fuel ih =>
    intro r listed a w hl hin' hnd hun hcl hsz hpo hk h
    have step : ∀ i ∈ Region.ready .any ops.toArray listed, wpOp P ops.toArray Q i (wpAny P .any ops.toArray Q fuel (listed.setIfInBounds i true)) a w := by
      intro i hi
      obtain ⟨h0, o, ho, hall⟩ := mem_ready.1 hi
      have ho' : ops[i]? = some o := by simpa using ho
      have hin := (hun i o ho').1 h0
      obtain ⟨⟨mi, i'⟩, hq, rfl⟩ := List.mem_map.1 hin
      simp only at *
      obtain ⟨pre, post, rfl⟩ := List.append_of_mem hq
      obtain ⟨h1, hpost, h2⟩ := PairOk.split pre hpo
      have hnd2 : ((pre ++ post).map (·.2)).Nodup ∧ i' ∉ (pre ++ post).map (·.2) := by
        simp only [List.map_append, List.map_cons] at hnd ⊢
        have hp : (List.map (·.2) pre ++ i' :: List.map (·.2) post).Perm (i' :: (List.map (·.2) pre ++ List.map (·.2) post)) := List.perm_middle
        have := hp.nodup_iff.1 hnd
        simp only [List.nodup_cons] at this
        exact ⟨this.2, this.1⟩
      have hpre : ∀ p ∈ pre, p.1 = .mv ∧ mi ≠ .fin ∧ (nth ops p.2).apart ops.toArray (nth ops i') = true := by
        intro p hp
        refine (h1 p hp).2.resolve_left fun ht => ?_
        have hl2 := hcl.reach p.2 i' o ho' hall ht
        have hlt : p.2 < ops.length := by
          rcases Nat.lt_or_ge p.2 ops.length with hx | hx
          · exact hx
          · have : listed.size ≤ p.2 := by omega
            simp [Array.getElem?_eq_none this] at hl2
        have hf := (hun p.2 _ (List.getElem?_eq_getElem hlt)).2 (List.mem_map.2 ⟨p, List.mem_append_left _ hp, rfl⟩)
        have hlt' : p.2 < listed.size := by omega
        simp [hlt'] at hf hl2
        rw [hf] at hl2; cases hl2
      have h' := run_pull hsel pre a w hpre h
      have hnth := nth_eq ops i' o ho'
      have next : ∀ a' w', ((∃ p ∈ pre ++ post, p.1 ≠ .fin) → Keeps (some (H0, L0)) w') → Run P ops (some (H0, L0)) (Q .normal) (pre ++ post) a' w' →
          wpAny P .any ops.toArray Q fuel (listed.setIfInBounds i' true) a' w' := by
        intro a' w' hk' hr'
        have hi'lt : i' < listed.size := by rw [hsz]; exact (List.getElem?_eq_some_iff.1 ho').1
        refine ih (pre ++ post) _ a' w' (by simp at hl ⊢; omega) (fun p hp => hin' p (by rcases List.mem_append.1 hp with hx | hx <;> simp [hx])) hnd2.1 (fun k ok hok => ?_) (fun k ok hok hkl e he hb => ?_) (by simp [hsz]) h2 hk' hr'
        · by_cases hki : i' = k
          · subst hki
            constructor
            · intro hx; simp [hi'lt] at hx
            · intro hx; exact absurd hx hnd2.2
          · rw [getD_set_ne true hki, hun k ok hok]
            simp only [List.map_append, List.map_cons, List.mem_append, List.mem_cons]
            constructor
            · rintro (hx | rfl | hx)
              · exact .inl hx
              · exact absurd rfl hki
              · exact .inr hx
            · rintro (hx | hx)
              · exact .inl hx
              · exact .inr (.inr hx)
        · by_cases hki : i' = k
          · subst hki
            rw [ho'] at hok; cases hok
            exact getD_set_true (hall e he hb)
          · rw [getD_set_ne false hki] at hkl
            exact getD_set_true (hcl k ok hok hkl e he hb)
      have nofin : mi = .fin → ¬ ∃ p ∈ pre ++ post, p.1 ≠ .fin := by
        rintro hm ⟨p, hp, hp2⟩
        rcases List.mem_append.1 hp with hx | hx
        · exact (hpre p hx).2.1 hm
        · exact hp2 ((hpost p hx).1 hm)
      unfold wpOp
      simp only [ho]
      cases mi with
      | mv =>
        have hkw := hk ⟨_, hq, by simp⟩
        obtain ⟨v, hy, hr⟩ := run_true.1 h'
        rw [hnth] at hy hr
        rcases hy with ⟨hw, hv⟩ | ⟨hw, rfl⟩
        · rw [if_pos hw]
          refine .inl ?_
          unfold Oper.wp
          rw [hv w hkw]
          exact next _ _ (fun _ => hkw) hr
        · rw [if_neg (by simp [hw])]
          exact next _ _ (fun _ => hkw) hr
      | nm =>
        have hkw := hk ⟨_, hq, by simp⟩
        simp only [Run, hnth] at h'
        split
        · rename_i hw
          rw [if_pos hw] at h'
          exact .inl ((One.mono (fun a' w' hx => next a' w' (fun _ => hx.1) hx.2) h').wp)
        · rename_i hw
          rw [if_neg hw] at h'
          exact next _ _ (fun _ => hkw) h'
      | fin =>
        simp only [Run, hnth] at h'
        split
        · rename_i hw
          rw [if_pos hw] at h'
          exact .inl ((One.mono (fun a' w' hx => next a' w' (fun hne => absurd hne (nofin rfl)) hx) h').wp)
        · rename_i hw
          rw [if_neg hw] at h'
          exact next _ _ (fun hne => absurd hne (nofin rfl)) h'
    refine ⟨fun hnil => ?_, step⟩
    -- something is ready: the least that is not listed
    exfalso
    have none_un : ∀ i, i < ops.length → listed.getD i true = true := by
      intro i
      induction i using Nat.strongRecOn with
      | _ i ihi =>
        intro hi
        cases hg : listed.getD i true with
        | true => rfl
        | false =>
          exfalso
          have hmem : i ∈ Region.ready .any ops.toArray listed := by
            refine mem_ready.2 ⟨hg, ops[i], by simp [hi], fun e he hb => ?_⟩
            have hlt := hlow i _ (List.getElem?_eq_getElem hi) e he hb
            have := ihi e.on hlt (by omega)
            have hes : e.on < listed.size := by omega
            simpa [hes] using this
          rw [hnil] at hmem; cases hmem
    cases r with
    | nil => simp at hl
    | cons p r =>
      have hp := hin' p List.mem_cons_self
      have h1 := (hun p.2 _ (List.getElem?_eq_getElem hp)).2 (by simp)
      rw [none_un _ hp] at h1; cases h1

/-! ### Two that act and that no edge orders -/
theorem yl_unique {o : Oper} {v v' : Value} {a : Act} {w : World} (hs : Sat w H0 L0) (h : Yl P ops H0 L0 o v a) (h' : Yl P ops H0 L0 o v' a) : v = v' := by
  rcases h with ⟨h1, h2⟩ | ⟨h1, rfl⟩ <;> rcases h' with ⟨h1', h2'⟩ | ⟨h1', rfl⟩
  · have := (h2 w hs).symm.trans (h2' w hs)
    simpa using this
  · rw [h1] at h1'; cases h1'
  · rw [h1] at h1'; cases h1'
  · rfl
theorem op_step_nm {Q : Exit → Act → World → Prop} {X : Act → World → Prop} {i : Nat} {o : Oper} {pre post : List (Fl × Nat)} {a : Act} {w : World} (hsel : ∀ k cs b, (nth ops k).op ≠ .select cs b) (ho : ops[i]? = some o)
    (hpre : ∀ p ∈ pre, p.1 = .mv ∧ Fl.nm ≠ .fin ∧ (nth ops p.2).apart ops.toArray (nth ops i) = true) (hkw : Keeps (some (H0, L0)) w) (h : Run P ops (some (H0, L0)) K (pre ++ (.nm, i) :: post) a w)
    (next : ∀ a' w', Keeps (some (H0, L0)) w' → Run P ops (some (H0, L0)) K (pre ++ post) a' w' → X a' w') : wpOp P ops.toArray Q i X a w := by
  have h' := run_pull hsel pre a w hpre h
  have hnth := nth_eq ops i o ho
  have ho2 : ops.toArray[i]? = some o := by simpa using ho
  unfold wpOp
  simp only [ho2]
  simp only [Run, hnth] at h'
  split
  · rename_i hw
    rw [if_pos hw] at h'
    exact .inl ((One.mono (fun a' w' hx => next a' w' hx.1 hx.2) h').wp)
  · rename_i hw
    rw [if_neg hw] at h'
    exact next _ _ hkw h'
theorem any_of_run2 {Q : Exit → Act → World → Prop} (hsel : ∀ k cs b, (nth ops k).op ≠ .select cs b)
    (hlow : ∀ i o, ops[i]? = some o → ∀ e ∈ o.after, Region.binds .any e = true → e.on < i) {x y : Nat} {rest : List (Fl × Nat)} : ∀ (fuel : Nat) (pre : List (Fl × Nat)) (listed : Array Bool) (a : Act) (w : World),
    (pre ++ (.nm, x) :: (.nm, y) :: rest).length = fuel → (∀ p ∈ pre, p.1 = .mv) → (∀ p ∈ pre ++ (.nm, x) :: (.nm, y) :: rest, p.2 < ops.length) → ((pre ++ (.nm, x) :: (.nm, y) :: rest).map (·.2)).Nodup →
    (∀ i o, ops[i]? = some o → (listed.getD i true = false ↔ i ∈ (pre ++ (.nm, x) :: (.nm, y) :: rest).map (·.2))) → Closed ops listed → listed.size = ops.length →
    PairOk ops (pre ++ (.nm, x) :: rest) → PairOk ops (pre ++ (.nm, y) :: rest) → Keeps (some (H0, L0)) w →
    Run P ops (some (H0, L0)) (Q .normal) (pre ++ (.nm, x) :: (.nm, y) :: rest) a w → Run P ops (some (H0, L0)) (Q .normal) (pre ++ (.nm, y) :: (.nm, x) :: rest) a w → wpAny P .any ops.toArray Q fuel listed a w := by
  intro fuel
  induction fuel with
  | zero => intro pre _ _ _ hl; simp at hl
  | succ fuel ih =>
    intro pre listed a w hl hmv hin' hnd hun hcl hsz hpx hpy hk h1 h2
    have unl : ∀ p ∈ pre ++ (.nm, x) :: (.nm, y) :: rest, listed.getD p.2 false = true → False := by
      intro p hp ht
      have hlt := hin' p hp
      have hf := (hun p.2 _ (List.getElem?_eq_getElem hlt)).2 (List.mem_map.2 ⟨p, hp, rfl⟩)
      have hlt' : p.2 < listed.size := by omega
      simp [hlt'] at hf ht
      rw [hf] at ht; cases ht
    have single : ∀ (u v : Nat), (u = x ∧ v = y ∨ u = y ∧ v = x) → ∀ o, ops[u]? = some o → (∀ e ∈ o.after, Region.binds .any e = true → listed.getD e.on false = true) →
        PairOk ops (pre ++ (.nm, u) :: rest) → PairOk ops (pre ++ (.nm, v) :: rest) → Run P ops (some (H0, L0)) (Q .normal) (pre ++ (.nm, u) :: (.nm, v) :: rest) a w →
        wpOp P ops.toArray Q u (wpAny P .any ops.toArray Q fuel (listed.setIfInBounds u true)) a w := by
      intro u v huv o ho' hall hpu hpv hr
      obtain ⟨hp1, _, _⟩ := PairOk.split pre hpu
      have hperm : (pre ++ (.nm, x) :: (.nm, y) :: rest).Perm ((.nm, u) :: (pre ++ (.nm, v) :: rest)) := by
        rcases huv with ⟨rfl, rfl⟩ | ⟨rfl, rfl⟩
        · exact List.perm_middle
        · exact (List.Perm.append_left pre (List.Perm.swap _ _ _)).trans List.perm_middle
      refine op_step_nm hsel ho' (fun p hp => ?_) hk hr fun a' w' hk' hr' => ?_
      · refine ⟨hmv p hp, by decide, ?_⟩
        rcases (hp1 p hp).2 with ht | ⟨_, _, ha⟩
        · exact (unl p (List.mem_append_left _ hp) (hcl.reach p.2 u o ho' hall ht)).elim
        · exact ha
      · have hult : u < listed.size := by rw [hsz]; exact (List.getElem?_eq_some_iff.1 ho').1
        have hnd' : (u :: (pre ++ (.nm, v) :: rest).map (·.2)).Nodup := by
          have := (hperm.map (·.2)).nodup_iff.1 hnd
          simpa using this
        refine any_of_run hsel hlow fuel (pre ++ (.nm, v) :: rest) _ a' w' ?_ (fun p hp => hin' p (hperm.mem_iff.2 (List.mem_cons_of_mem _ hp))) (List.nodup_cons.1 hnd').2 (fun k ok hok => ?_) (fun k ok hok hkl e he hb => ?_) (by simp [hsz]) hpv (fun _ => hk') hr'
        · have := hperm.length_eq; rw [hl] at this; simp at this ⊢; omega
        · by_cases hki : u = k
          · subst hki
            constructor
            · intro hx; simp [hult] at hx
            · intro hx; exact absurd hx (List.nodup_cons.1 hnd').1
          · rw [getD_set_ne true hki, hun k ok hok, (hperm.map (·.2)).mem_iff, List.map_cons, List.mem_cons]
            exact ⟨fun hx => hx.resolve_left (fun e => hki e.symm), .inr⟩
        · by_cases hki : u = k
          · subst hki
            rw [ho'] at hok; cases hok
            exact getD_set_true (hall e he hb)
          · rw [getD_set_ne false hki] at hkl
            exact getD_set_true (hcl k ok hok hkl e he hb)
    have step : ∀ i ∈ Region.ready .any ops.toArray listed, wpOp P ops.toArray Q i (wpAny P .any ops.toArray Q fuel (listed.setIfInBounds i true)) a w := by
      intro i hi
      obtain ⟨h0, o, ho, hall⟩ := mem_ready.1 hi
      have ho' : ops[i]? = some o := by simpa using ho
      have hin := (hun i o ho').1 h0
      obtain ⟨⟨mi, i'⟩, hq, rfl⟩ := List.mem_map.1 hin
      simp only at *
      rcases List.mem_append.1 hq with hq1 | hq1
      · -- among those that only look
        have hmi := hmv _ hq1
        simp only at hmi
        subst hmi
        obtain ⟨p1, p2, rfl⟩ := List.append_of_mem hq1
        rw [List.append_assoc, List.cons_append] at hpx hpy h1 h2
        obtain ⟨ha1, _, hb1⟩ := PairOk.split p1 hpx
        obtain ⟨_, _, hb2⟩ := PairOk.split p1 hpy
        have hperm : ((p1 ++ (.mv, i') :: p2) ++ (.nm, x) :: (.nm, y) :: rest).Perm ((.mv, i') :: ((p1 ++ p2) ++ (.nm, x) :: (.nm, y) :: rest)) := by
          rw [List.append_assoc, List.cons_append, List.append_assoc]; exact List.perm_middle
        have hpre : ∀ p ∈ p1, p.1 = .mv ∧ Fl.mv ≠ .fin ∧ (nth ops p.2).apart ops.toArray (nth ops i') = true := by
          intro p hp
          refine ⟨hmv p (List.mem_append_left _ hp), by decide, ?_⟩
          rcases (ha1 p hp).2 with ht | ⟨_, _, ha⟩
          · exact (unl p (List.mem_append_left _ (List.mem_append_left _ hp)) (hcl.reach p.2 i' o ho' hall ht)).elim
          · exact ha
        have e1 := run_pull hsel p1 a w hpre h1
        have e2 := run_pull hsel p1 a w hpre h2
        have hnth := nth_eq ops i' o ho'
        obtain ⟨v, hy, hr1⟩ := run_true.1 e1
        obtain ⟨v', hy', hr2⟩ := run_true.1 e2
        have hvv := yl_unique hk hy hy'
        subst hvv
        rw [hnth] at hy hr1 hr2
        rw [← List.append_assoc] at hr1 hr2 hb1 hb2
        have hult : i' < listed.size := by rw [hsz]; exact (List.getElem?_eq_some_iff.1 ho').1
        have hnd' : (i' :: ((p1 ++ p2) ++ (.nm, x) :: (.nm, y) :: rest).map (·.2)).Nodup := by
          have := (hperm.map (·.2)).nodup_iff.1 hnd
          simpa using this
        have next : ∀ a', Run P ops (some (H0, L0)) (Q .normal) ((p1 ++ p2) ++ (.nm, x) :: (.nm, y) :: rest) a' w → Run P ops (some (H0, L0)) (Q .normal) ((p1 ++ p2) ++ (.nm, y) :: (.nm, x) :: rest) a' w →
            wpAny P .any ops.toArray Q fuel (listed.setIfInBounds i' true) a' w := by
          intro a' hq1 hq2
          refine ih (p1 ++ p2) _ a' w ?_ (fun p hp => hmv p (by rcases List.mem_append.1 hp with hx | hx <;> simp [hx])) (fun p hp => hin' p (hperm.mem_iff.2 (List.mem_cons_of_mem _ hp))) (List.nodup_cons.1 hnd').2 (fun k ok hok => ?_) (fun k ok hok hkl e he hb => ?_) (by simp [hsz]) hb1 hb2 hk hq1 hq2
          · have := hperm.length_eq; rw [hl] at this; simp at this ⊢; omega
          · by_cases hki : i' = k
            · subst hki
              constructor
              · intro hx; simp [hult] at hx
              · intro hx; exact absurd hx (List.nodup_cons.1 hnd').1
            · rw [getD_set_ne true hki, hun k ok hok, (hperm.map (·.2)).mem_iff, List.map_cons, List.mem_cons]
              exact ⟨fun hx => hx.resolve_left (fun e => hki e.symm), .inr⟩
          · by_cases hki : i' = k
            · subst hki
              rw [ho'] at hok; cases hok
              exact getD_set_true (hall e he hb)
            · rw [getD_set_ne false hki] at hkl
              exact getD_set_true (hcl k ok hok hkl e he hb)
        unfold wpOp
        simp only [ho]
        rcases hy with ⟨hw, hv⟩ | ⟨hw, rfl⟩
        · rw [if_pos hw]
          refine .inl ?_
          unfold Oper.wp
          rw [hv w hk]
          exact next _ hr1 hr2
        · rw [if_neg (by simp [hw])]
          exact next _ hr1 hr2
      · rcases List.mem_cons.1 hq1 with hq2 | hq2
        · cases hq2; exact single x y (.inl ⟨rfl, rfl⟩) o ho' hall hpx hpy h1
        · rcases List.mem_cons.1 hq2 with hq3 | hq3
          · cases hq3; exact single y x (.inr ⟨rfl, rfl⟩) o ho' hall hpy hpx h2
          · -- what stands behind both is not ready
            exfalso
            obtain ⟨_, hpost, _⟩ := PairOk.split pre hpx
            rcases (hpost _ hq3).2 with ht | ⟨hm, _⟩
            · exact unl (.nm, x) (by simp) (hcl.reach x i' o ho' hall ht)
            · cases hm
    refine ⟨fun hnil => ?_, step⟩
    exfalso
    have none_un : ∀ i, i < ops.length → listed.getD i true = true := by
      intro i
      induction i using Nat.strongRecOn with
      | _ i ihi =>
        intro hi
        cases hg : listed.getD i true with
        | true => rfl
        | false =>
          exfalso
          have hmem : i ∈ Region.ready .any ops.toArray listed := by
            refine mem_ready.2 ⟨hg, ops[i], by simp [hi], fun e he hb => ?_⟩
            have hlt := hlow i _ (List.getElem?_eq_getElem hi) e he hb
            have := ihi e.on hlt (by omega)
            have hes : e.on < listed.size := by omega
            simpa [hes] using this
          rw [hnil] at hmem; cases hmem
    have hx := hin' (.nm, x) (by simp)
    have h3 := (hun x _ (List.getElem?_eq_getElem hx)).2 (by simp)
    rw [none_un _ hx] at h3; cases h3
theorem any_of_run3 {Q : Exit → Act → World → Prop} (hsel : ∀ k cs b, (nth ops k).op ≠ .select cs b)
    (hlow : ∀ i o, ops[i]? = some o → ∀ e ∈ o.after, Region.binds .any e = true → e.on < i) {x y : Nat} {rest rA rB : List (Fl × Nat)} (hA : rA.Perm ((.nm, y) :: rest)) (hB : rB.Perm ((.nm, x) :: rest)) (hrest : ∀ q ∈ rest, Pair ops (.nm, x) q ∨ Pair ops (.nm, y) q) : ∀ (fuel : Nat) (pre : List (Fl × Nat)) (listed : Array Bool) (a : Act) (w : World),
    (pre ++ (.nm, x) :: (.nm, y) :: rest).length = fuel → (∀ p ∈ pre, p.1 = .mv) → (∀ p ∈ pre ++ (.nm, x) :: (.nm, y) :: rest, p.2 < ops.length) → ((pre ++ (.nm, x) :: (.nm, y) :: rest).map (·.2)).Nodup →
    (∀ i o, ops[i]? = some o → (listed.getD i true = false ↔ i ∈ (pre ++ (.nm, x) :: (.nm, y) :: rest).map (·.2))) → Closed ops listed → listed.size = ops.length →
    PairOk ops (pre ++ rA) → PairOk ops (pre ++ rB) → Keeps (some (H0, L0)) w →
    Run P ops (some (H0, L0)) (Q .normal) (pre ++ (.nm, x) :: rA) a w → Run P ops (some (H0, L0)) (Q .normal) (pre ++ (.nm, y) :: rB) a w → wpAny P .any ops.toArray Q fuel listed a w := by
  intro fuel
  induction fuel with
  | zero => intro pre _ _ _ hl; simp at hl
  | succ fuel ih =>
    intro pre listed a w hl hmv hin' hnd hun hcl hsz hpx hpy hk h1 h2
    have unl : ∀ p ∈ pre ++ (.nm, x) :: (.nm, y) :: rest, listed.getD p.2 false = true → False := by
      intro p hp ht
      have hlt := hin' p hp
      have hf := (hun p.2 _ (List.getElem?_eq_getElem hlt)).2 (List.mem_map.2 ⟨p, hp, rfl⟩)
      have hlt' : p.2 < listed.size := by omega
      simp [hlt'] at hf ht
      rw [hf] at ht; cases ht
    have single : ∀ (u : Nat) (rU rV : List (Fl × Nat)), (pre ++ (.nm, x) :: (.nm, y) :: rest).Perm ((.nm, u) :: (pre ++ rU)) → (.nm, u) ∈ rV → ∀ o, ops[u]? = some o → (∀ e ∈ o.after, Region.binds .any e = true → listed.getD e.on false = true) →
        PairOk ops (pre ++ rU) → PairOk ops (pre ++ rV) → Run P ops (some (H0, L0)) (Q .normal) (pre ++ (.nm, u) :: rU) a w →
        wpOp P ops.toArray Q u (wpAny P .any ops.toArray Q fuel (listed.setIfInBounds u true)) a w := by
      intro u rU rV hperm huV o ho' hall hpv hpu hr
      have hp1 : ∀ p ∈ pre, Pair ops p (.nm, u) := by
        obtain ⟨r1, r2, rfl⟩ := List.append_of_mem huV
        rw [← List.append_assoc] at hpu
        obtain ⟨h, _, _⟩ := PairOk.split _ hpu
        exact fun p hp => h p (List.mem_append_left _ hp)
      refine op_step_nm hsel ho' (fun p hp => ?_) hk hr fun a' w' hk' hr' => ?_
      · refine ⟨hmv p hp, by decide, ?_⟩
        rcases (hp1 p hp).2 with ht | ⟨_, _, ha⟩
        · exact (unl p (List.mem_append_left _ hp) (hcl.reach p.2 u o ho' hall ht)).elim
        · exact ha
      · have hult : u < listed.size := by rw [hsz]; exact (List.getElem?_eq_some_iff.1 ho').1
        have hnd' : (u :: (pre ++ rU).map (·.2)).Nodup := by
          have := (hperm.map (·.2)).nodup_iff.1 hnd
          simpa using this
        refine any_of_run hsel hlow fuel (pre ++ rU) _ a' w' ?_ (fun p hp => hin' p (hperm.mem_iff.2 (List.mem_cons_of_mem _ hp))) (List.nodup_cons.1 hnd').2 (fun k ok hok => ?_) (fun k ok hok hkl e he hb => ?_) (by simp [hsz]) hpv (fun _ => hk') hr'
        · have := hperm.length_eq; rw [hl] at this; simp at this ⊢; omega
        · by_cases hki : u = k
          · subst hki
            constructor
            · intro hx; simp [hult] at hx
            · intro hx; exact absurd hx (List.nodup_cons.1 hnd').1
          · rw [getD_set_ne true hki, hun k ok hok, (hperm.map (·.2)).mem_iff, List.map_cons, List.mem_cons]
            exact ⟨fun hx => hx.resolve_left (fun e => hki e.symm), .inr⟩
        · by_cases hki : u = k
          · subst hki
            rw [ho'] at hok; cases hok
            exact getD_set_true (hall e he hb)
          · rw [getD_set_ne false hki] at hkl
            exact getD_set_true (hcl k ok hok hkl e he hb)
    have step : ∀ i ∈ Region.ready .any ops.toArray listed, wpOp P ops.toArray Q i (wpAny P .any ops.toArray Q fuel (listed.setIfInBounds i true)) a w := by
      intro i hi
      obtain ⟨h0, o, ho, hall⟩ := mem_ready.1 hi
      have ho' : ops[i]? = some o := by simpa using ho
      have hin := (hun i o ho').1 h0
      obtain ⟨⟨mi, i'⟩, hq, rfl⟩ := List.mem_map.1 hin
      simp only at *
      rcases List.mem_append.1 hq with hq1 | hq1
      · -- among those that only look
        have hmi := hmv _ hq1
        simp only at hmi
        subst hmi
        obtain ⟨p1, p2, rfl⟩ := List.append_of_mem hq1
        rw [List.append_assoc, List.cons_append] at hpx hpy h1 h2
        obtain ⟨ha1, _, hb1⟩ := PairOk.split p1 hpx
        obtain ⟨_, _, hb2⟩ := PairOk.split p1 hpy
        have hperm : ((p1 ++ (.mv, i') :: p2) ++ (.nm, x) :: (.nm, y) :: rest).Perm ((.mv, i') :: ((p1 ++ p2) ++ (.nm, x) :: (.nm, y) :: rest)) := by
          rw [List.append_assoc, List.cons_append, List.append_assoc]; exact List.perm_middle
        have hpre : ∀ p ∈ p1, p.1 = .mv ∧ Fl.mv ≠ .fin ∧ (nth ops p.2).apart ops.toArray (nth ops i') = true := by
          intro p hp
          refine ⟨hmv p (List.mem_append_left _ hp), by decide, ?_⟩
          rcases (ha1 p hp).2 with ht | ⟨_, _, ha⟩
          · exact (unl p (List.mem_append_left _ (List.mem_append_left _ hp)) (hcl.reach p.2 i' o ho' hall ht)).elim
          · exact ha
        have e1 := run_pull hsel p1 a w hpre h1
        have e2 := run_pull hsel p1 a w hpre h2
        have hnth := nth_eq ops i' o ho'
        obtain ⟨v, hy, hr1⟩ := run_true.1 e1
        obtain ⟨v', hy', hr2⟩ := run_true.1 e2
        have hvv := yl_unique hk hy hy'
        subst hvv
        rw [hnth] at hy hr1 hr2
        rw [← List.append_assoc] at hr1 hr2 hb1 hb2
        have hult : i' < listed.size := by rw [hsz]; exact (List.getElem?_eq_some_iff.1 ho').1
        have hnd' : (i' :: ((p1 ++ p2) ++ (.nm, x) :: (.nm, y) :: rest).map (·.2)).Nodup := by
          have := (hperm.map (·.2)).nodup_iff.1 hnd
          simpa using this
        have next : ∀ a', Run P ops (some (H0, L0)) (Q .normal) ((p1 ++ p2) ++ (.nm, x) :: rA) a' w → Run P ops (some (H0, L0)) (Q .normal) ((p1 ++ p2) ++ (.nm, y) :: rB) a' w →
            wpAny P .any ops.toArray Q fuel (listed.setIfInBounds i' true) a' w := by
          intro a' hq1 hq2
          refine ih (p1 ++ p2) _ a' w ?_ (fun p hp => hmv p (by rcases List.mem_append.1 hp with hx | hx <;> simp [hx])) (fun p hp => hin' p (hperm.mem_iff.2 (List.mem_cons_of_mem _ hp))) (List.nodup_cons.1 hnd').2 (fun k ok hok => ?_) (fun k ok hok hkl e he hb => ?_) (by simp [hsz]) hb1 hb2 hk hq1 hq2
          · have := hperm.length_eq; rw [hl] at this; simp at this ⊢; omega
          · by_cases hki : i' = k
            · subst hki
              constructor
              · intro hx; simp [hult] at hx
              · intro hx; exact absurd hx (List.nodup_cons.1 hnd').1
            · rw [getD_set_ne true hki, hun k ok hok, (hperm.map (·.2)).mem_iff, List.map_cons, List.mem_cons]
              exact ⟨fun hx => hx.resolve_left (fun e => hki e.symm), .inr⟩
          · by_cases hki : i' = k
            · subst hki
              rw [ho'] at hok; cases hok
              exact getD_set_true (hall e he hb)
            · rw [getD_set_ne false hki] at hkl
              exact getD_set_true (hcl k ok hok hkl e he hb)
        unfold wpOp
        simp only [ho]
        rcases hy with ⟨hw, hv⟩ | ⟨hw, rfl⟩
        · rw [if_pos hw]
          refine .inl ?_
          unfold Oper.wp
          rw [hv w hk]
          exact next _ hr1 hr2
        · rw [if_neg (by simp [hw])]
          exact next _ hr1 hr2
      · rcases List.mem_cons.1 hq1 with hq2 | hq2
        · cases hq2; exact single x rA rB (List.perm_middle.trans ((hA.symm.append_left pre).cons _)) (hB.mem_iff.2 List.mem_cons_self) o ho' hall hpx hpy h1
        · rcases List.mem_cons.1 hq2 with hq3 | hq3
          · cases hq3; exact single y rB rA ((List.Perm.append_left pre (List.Perm.swap _ _ _)).trans (List.perm_middle.trans ((hB.symm.append_left pre).cons _))) (hA.mem_iff.2 List.mem_cons_self) o ho' hall hpy hpx h2
          · -- what stands behind both is not ready
            exfalso
            rcases hrest _ hq3 with hpr | hpr
            · rcases hpr.2 with ht | ⟨hm, _⟩
              · exact unl (.nm, x) (by simp) (hcl.reach x i' o ho' hall ht)
              · cases hm
            · rcases hpr.2 with ht | ⟨hm, _⟩
              · exact unl (.nm, y) (by simp) (hcl.reach y i' o ho' hall ht)
              · cases hm
    refine ⟨fun hnil => ?_, step⟩
    exfalso
    have none_un : ∀ i, i < ops.length → listed.getD i true = true := by
      intro i
      induction i using Nat.strongRecOn with
      | _ i ihi =>
        intro hi
        cases hg : listed.getD i true with
        | true => rfl
        | false =>
          exfalso
          have hmem : i ∈ Region.ready .any ops.toArray listed := by
            refine mem_ready.2 ⟨hg, ops[i], by simp [hi], fun e he hb => ?_⟩
            have hlt := hlow i _ (List.getElem?_eq_getElem hi) e he hb
            have := ihi e.on hlt (by omega)
            have hes : e.on < listed.size := by omega
            simpa [hes] using this
          rw [hnil] at hmem; cases hmem
    have hx := hin' (.nm, x) (by simp)
    have h3 := (hun x _ (List.getElem?_eq_getElem hx)).2 (by simp)
    rw [none_un _ hx] at h3; cases h3
end

def pairB (ops : List Oper) (m : List Nat) (p q : Fl × Nat) : Bool :=
  (match p.1, q.1 with
   | .fin, .fin => true
   | .fin, _ => false
   | _, _ => true) &&
  ((m.getD q.2 0).testBit p.2 || (match p.1, q.1 with
   | .mv, .fin => false
   | .mv, _ => (nth ops p.2).apart ops.toArray (nth ops q.2)
   | _, _ => false))
def pairOkB (ops : List Oper) (m : List Nat) : List (Fl × Nat) → Bool
  | [] => true
  | p :: r => (r.all fun q => pairB ops m p q) && pairOkB ops m r
theorem pairB_spec {ops : List Oper} {p q : Fl × Nat} (h : pairB ops (masks ops []) p q = true) : Pair ops p q := by
  obtain ⟨mp, ip⟩ := p
  obtain ⟨mq, iq⟩ := q
  simp only [pairB, Bool.and_eq_true, Bool.or_eq_true] at h
  obtain ⟨h1, h2⟩ := h
  refine ⟨fun hp => ?_, ?_⟩
  · simp only at hp; subst hp; cases mq <;> simp at h1 ⊢
  · rcases h2 with h2 | h2
    · exact .inl h2
    · refine .inr ?_
      cases mp <;> cases mq <;> simp at h2 ⊢ <;> exact h2
def nodupB : List Nat → Bool
  | [] => true
  | i :: r => !r.contains i && nodupB r
def lowB (ops : List Oper) : Nat → List Oper → Bool
  | _, [] => true
  | i, o :: r => (o.after.toList.all fun e => !Region.binds .any e || Nat.blt e.on i) && lowB ops (i + 1) r
def schOk (ops : List Oper) (sch : List (Fl × Nat)) : Bool :=
  sch.length == ops.length && (sch.all fun p => Nat.blt p.2 ops.length) && (nodupB (sch.map (·.2)) && (List.range ops.length).all fun i => (sch.map (·.2)).contains i) && lowB ops 0 ops && (ops.all fun o => match o.op with | .select .. => false | _ => true) &&
  pairOkB ops (masks ops []) sch

def schOk2 (ops : List Oper) (pre : List (Fl × Nat)) (x y : Nat) (rest : List (Fl × Nat)) : Bool :=
  let sch := pre ++ (.nm, x) :: (.nm, y) :: rest
  sch.length == ops.length && (sch.all fun p => Nat.blt p.2 ops.length) && (nodupB (sch.map (·.2)) && (List.range ops.length).all fun i => (sch.map (·.2)).contains i) && lowB ops 0 ops && (ops.all fun o => match o.op with | .select .. => false | _ => true) &&
  (pre.all fun p => match p.1 with | .mv => true | _ => false) && pairOkB ops (masks ops []) (pre ++ (.nm, x) :: rest) && pairOkB ops (masks ops []) (pre ++ (.nm, y) :: rest)

def schOk3 (ops : List Oper) (pre : List (Fl × Nat)) (x y : Nat) (rest rA rB : List (Fl × Nat)) : Bool :=
  let sch := pre ++ (.nm, x) :: (.nm, y) :: rest
  sch.length == ops.length && (sch.all fun p => Nat.blt p.2 ops.length) && (nodupB (sch.map (·.2)) && (List.range ops.length).all fun i => (sch.map (·.2)).contains i) && lowB ops 0 ops && (ops.all fun o => match o.op with | .select .. => false | _ => true) &&
  (pre.all fun p => match p.1 with | .mv => true | _ => false) && pairOkB ops (masks ops []) (pre ++ rA) && pairOkB ops (masks ops []) (pre ++ rB) && (rA.isPerm ((.nm, y) :: rest) && rB.isPerm ((.nm, x) :: rest)) && (rest.all fun q => pairB ops (masks ops []) (.nm, x) q || pairB ops (masks ops []) (.nm, y) q)

theorem pairOkB_spec {ops : List Oper} : ∀ {sch : List (Fl × Nat)}, pairOkB ops (masks ops []) sch = true → PairOk ops sch
  | [], _ => trivial
  | p :: r, h => by
    simp only [pairOkB, Bool.and_eq_true, List.all_eq_true] at h
    exact ⟨fun q hq => pairB_spec (h.1 q hq), pairOkB_spec h.2⟩
theorem nodupB_spec : ∀ {l : List Nat}, nodupB l = true → l.Nodup
  | [], _ => List.nodup_nil
  | i :: r, h => by
    simp only [nodupB, Bool.and_eq_true, Bool.not_eq_true', List.contains_eq_mem, decide_eq_false_iff_not] at h
    exact List.nodup_cons.2 ⟨h.1, nodupB_spec h.2⟩
theorem lowB_spec {ops : List Oper} : ∀ (l : List Oper) (k : Nat), lowB ops k l = true → ∀ i o, l[i]? = some o → ∀ e ∈ o.after, Region.binds .any e = true → e.on < k + i
  | [], _, _, _, _, h => by simp at h
  | o' :: r, k, hl, 0, o, h => by
    simp at h; subst h
    intro e he hb
    simp only [lowB, Bool.and_eq_true, List.all_eq_true] at hl
    have := hl.1 e (by simpa using he)
    simp only [hb, Bool.not_true, Bool.false_or, Nat.blt_eq] at this
    simpa using this
  | o' :: r, k, hl, i + 1, o, h => by
    intro e he hb
    simp only [lowB, Bool.and_eq_true] at hl
    have := lowB_spec r (k + 1) hl.2 i o (by simpa using h) e he hb
    omega

/-- A REGION THAT DRAWS ITS ORDER, walked in the order 'sch'. -/
theorem wp_region_sch {P : Program} {id : Nat} {ops : List Oper} {Q : Exit → Act → World → Prop} {a : Act} {w : World} (hm : P.follows .mixedOrders = true)
    (sch : List (Fl × Nat)) (hs : schOk ops sch = true) (H0 : Gh) (L0 : Chunks) (hk : Keeps (some (H0, L0)) { w with drawn := w.drawn + 1 })
    (h : Run P ops (some (H0, L0)) (Q .normal) sch a { w with drawn := w.drawn + 1 }) : (Code.region id ops.toArray true).wp P Q a w := by
  simp only [schOk, Bool.and_eq_true, beq_iff_eq, List.all_eq_true, Nat.blt_eq] at hs
  obtain ⟨⟨⟨⟨⟨h1, h2⟩, h3, h7⟩, h4⟩, h5⟩, h6⟩ := hs
  refine wp_region_any hm ?_
  have hnd := nodupB_spec h3
  have hsel : ∀ k cs b, (nth ops k).op ≠ .select cs b := by
    intro k cs b he
    cases hk : ops[k]? with
    | some o =>
      rw [nth_eq ops k o hk] at he
      have := h5 o (List.mem_of_getElem? hk)
      simp [he] at this
    | none =>
      have : ∀ (l : List Oper) (i : Nat), l[i]? = none → nth l i = default := by
        intro l
        induction l with
        | nil => intro i _; rfl
        | cons o r ih => intro i hi; cases i with
          | zero => simp at hi
          | succ i => exact ih i (by simpa using hi)
      rw [this ops k hk] at he
      cases he
  refine any_of_run hsel (fun i o ho e he hb => by simpa using lowB_spec ops 0 h4 i o ho e he hb) _ sch _ a _ (by simpa using h1) (fun p hp => h2 p hp) hnd ?_ ?_ (by simp) (pairOkB_spec h6) (fun _ => hk) h
  · intro i o ho
    have hi : i < ops.length := (List.getElem?_eq_some_iff.1 ho).1
    have : i ∈ sch.map (·.2) := by simpa using h7 i (List.mem_range.2 hi)
    simp [this, hi]
  · intro i o ho hl
    have hi : i < ops.length := (List.getElem?_eq_some_iff.1 ho).1
    simp [hi] at hl

/-- THE SAME where two that act are ordered by no edge: walked in both orders. -/
theorem wp_region_sch2 {P : Program} {id : Nat} {ops : List Oper} {Q : Exit → Act → World → Prop} {a : Act} {w : World} (hm : P.follows .mixedOrders = true)
    (pre : List (Fl × Nat)) (x y : Nat) (rest : List (Fl × Nat)) (hs : schOk2 ops pre x y rest = true) (H0 : Gh) (L0 : Chunks) (hk : Keeps (some (H0, L0)) { w with drawn := w.drawn + 1 })
    (h1' : Run P ops (some (H0, L0)) (Q .normal) (pre ++ (.nm, x) :: (.nm, y) :: rest) a { w with drawn := w.drawn + 1 })
    (h2' : Run P ops (some (H0, L0)) (Q .normal) (pre ++ (.nm, y) :: (.nm, x) :: rest) a { w with drawn := w.drawn + 1 }) : (Code.region id ops.toArray true).wp P Q a w := by
  simp only [schOk2, Bool.and_eq_true, beq_iff_eq, List.all_eq_true, Nat.blt_eq] at hs
  obtain ⟨⟨⟨⟨⟨⟨⟨h1, h2⟩, h3, h7⟩, h4⟩, h5⟩, h8⟩, h6⟩, h9⟩ := hs
  refine wp_region_any hm ?_
  have hnd := nodupB_spec h3
  have hsel : ∀ k cs b, (nth ops k).op ≠ .select cs b := by
    intro k cs b he
    cases hk : ops[k]? with
    | some o =>
      rw [nth_eq ops k o hk] at he
      have := h5 o (List.mem_of_getElem? hk)
      simp [he] at this
    | none =>
      have : ∀ (l : List Oper) (i : Nat), l[i]? = none → nth l i = default := by
        intro l
        induction l with
        | nil => intro i _; rfl
        | cons o r ih => intro i hi; cases i with
          | zero => simp at hi
          | succ i => exact ih i (by simpa using hi)
      rw [this ops k hk] at he
      cases he
  refine any_of_run2 hsel (fun i o ho e he hb => by simpa using lowB_spec ops 0 h4 i o ho e he hb) _ pre _ a _ (by simpa using h1) (fun p hp => by have := h8 p hp; cases hp1 : p.1 <;> simp [hp1] at this ⊢) (fun p hp => h2 p hp) hnd ?_ ?_ (by simp) (pairOkB_spec h6) (pairOkB_spec h9) hk h1' h2'
  · intro i o ho
    have hi : i < ops.length := (List.getElem?_eq_some_iff.1 ho).1
    have : i ∈ (pre ++ (.nm, x) :: (.nm, y) :: rest).map (·.2) := by simpa using h7 i (List.mem_range.2 hi)
    simp only [this, iff_true]
    simp [hi]
  · intro i o ho hl
    have hi : i < ops.length := (List.getElem?_eq_some_iff.1 ho).1
    simp [hi] at hl

theorem wp_region_sch3 {P : Program} {id : Nat} {ops : List Oper} {Q : Exit → Act → World → Prop} {a : Act} {w : World} (hm : P.follows .mixedOrders = true)
    (pre : List (Fl × Nat)) (x y : Nat) (rest rA rB : List (Fl × Nat)) (hs : schOk3 ops pre x y rest rA rB = true) (H0 : Gh) (L0 : Chunks) (hk : Keeps (some (H0, L0)) { w with drawn := w.drawn + 1 })
    (h1' : Run P ops (some (H0, L0)) (Q .normal) (pre ++ (.nm, x) :: rA) a { w with drawn := w.drawn + 1 })
    (h2' : Run P ops (some (H0, L0)) (Q .normal) (pre ++ (.nm, y) :: rB) a { w with drawn := w.drawn + 1 }) : (Code.region id ops.toArray true).wp P Q a w := by
  simp only [schOk3, Bool.and_eq_true, beq_iff_eq, List.all_eq_true, Nat.blt_eq, List.isPerm_iff, Bool.or_eq_true] at hs
  obtain ⟨⟨⟨⟨⟨⟨⟨⟨⟨h1, h2⟩, h3, h7⟩, h4⟩, h5⟩, h8⟩, h6⟩, h9⟩, hpA, hpB⟩, hre⟩ := hs
  refine wp_region_any hm ?_
  have hnd := nodupB_spec h3
  have hsel : ∀ k cs b, (nth ops k).op ≠ .select cs b := by
    intro k cs b he
    cases hk : ops[k]? with
    | some o =>
      rw [nth_eq ops k o hk] at he
      have := h5 o (List.mem_of_getElem? hk)
      simp [he] at this
    | none =>
      have : ∀ (l : List Oper) (i : Nat), l[i]? = none → nth l i = default := by
        intro l
        induction l with
        | nil => intro i _; rfl
        | cons o r ih => intro i hi; cases i with
          | zero => simp at hi
          | succ i => exact ih i (by simpa using hi)
      rw [this ops k hk] at he
      cases he
  refine any_of_run3 hsel (fun i o ho e he hb => by simpa using lowB_spec ops 0 h4 i o ho e he hb) hpA hpB (fun q hq => (hre q hq).imp pairB_spec pairB_spec) _ pre _ a _ (by simpa using h1) (fun p hp => by have := h8 p hp; cases hp1 : p.1 <;> simp [hp1] at this ⊢) (fun p hp => h2 p hp) hnd ?_ ?_ (by simp) (pairOkB_spec h6) (pairOkB_spec h9) hk h1' h2'
  · intro i o ho
    have hi : i < ops.length := (List.getElem?_eq_some_iff.1 ho).1
    have : i ∈ (pre ++ (.nm, x) :: (.nm, y) :: rest).map (·.2) := by simpa using h7 i (List.mem_range.2 hi)
    simp only [this, iff_true]
    simp [hi]
  · intro i o ho hl
    have hi : i < ops.length := (List.getElem?_eq_some_iff.1 ho).1
    simp [hi] at hl

/-- A REGION IN THE TEXT's OWN ORDER. -/
theorem wpList_of_run {P : Program} {ops : List Oper} {Q : Exit → Act → World → Prop} : ∀ (sch : List (Fl × Nat)) (a : Act) (w : World),
    Run P ops none (Q .normal) sch a w → wpList P ops.toArray Q (sch.map fun p => nth ops p.2) a w
  | [], _, _, h => h
  | (m, i) :: r, a, w, h => by
    simp only [List.map_cons]
    unfold wpList
    simp only [Run] at h
    split
    · rename_i hw
      rw [if_pos hw] at h
      cases m with
      | mv =>
        obtain ⟨v, h1, h2⟩ := h
        refine .inl ?_
        unfold Oper.wp
        rw [h1 w rfl]
        exact wpList_of_run r _ w h2
      | fin => exact .inl ((One.mono (fun a' w' hx => wpList_of_run r a' w' hx) h).wp)
      | nm => exact .inl ((One.mono (fun a' w' hx => wpList_of_run r a' w' hx.2) h).wp)
    · rename_i hw
      rw [if_neg hw] at h
      exact wpList_of_run r _ w h

theorem wp_region_seq {P : Program} {id : Nat} {ops : List Oper} {Q : Exit → Act → World → Prop} {a : Act} {w : World}
    (sch : List (Fl × Nat)) (hs : (sch.map fun p => p.2) = List.range ops.length)
    (h : Run P ops none (Q .normal) sch a w) : (Code.region id ops.toArray false).wp P Q a w := by
  refine wp_region_list ?_
  have := wpList_of_run sch a w h
  have e : (sch.map fun p => nth ops p.2) = ops := by
    have e1 : (sch.map fun p => nth ops p.2) = (sch.map fun p => p.2).map (nth ops) := by simp
    rw [e1, hs]
    apply List.ext_getElem?
    intro i
    rw [List.getElem?_map]
    by_cases hi : i < ops.length
    · rw [List.getElem?_range hi, List.getElem?_eq_getElem hi]
      simp [nth_eq ops i _ (List.getElem?_eq_getElem hi)]
    · rw [List.getElem?_eq_none (by simp; omega), List.getElem?_eq_none (by omega)]; rfl
  rw [e] at this
  simpa using this
end Go.VK
