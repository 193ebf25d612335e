/-
  Steps inside a fence: operations in a round of a range over a function; a call of yield; the iterator's objects.
-/
import Derived.Test.YtfhldfjknagidaaDoorVKm
import Derived.Test.YtfhldfjknagidaaDoorVKo
set_option linter.unusedSimpArgs false
set_option linter.unusedVariables false
namespace Go.VK
open Go.Tr Go.Proofs

section
variable {F : Fence} {m : Nat} {P : Program} {ops : Array Oper} {Q : Exit → Act → World → Prop} {n : Nat} {E : Env} {l : List Oper} {H : Gh} {L : Chunks}
  {d : Nat} {dst : Option Nat} {op : Op} {t : TypeId} {p : String} {af : Array Edge} {v : Value}
/-- A list of operations, one behind the other, inside a fence. -/
def GI (F : Fence) (m : Nat) (P : Program) (ops : Array Oper) (Q : Exit → Act → World → Prop) (n : Nat) (E : Env) (l : List Oper) (H : Gh) (L : Chunks) : Prop :=
  ∀ a w, At a n E → Sat w H L → wpListIn F m P ops Q l a w
/-- An operation that calls nothing and defers nothing. -/
def Bare (P : Program) (op : Op) : Prop := (∀ w ρ t, (⟨none, op, t, "", #[], none⟩ : Oper).about P w ρ = none) ∧ ∀ c, op ≠ .defer c
theorem gi_nil (h : GK Q .normal n E H L) : GI F m P ops Q n E [] H L := fun a w hA hS => h a w hA hS
theorem step_in {x : Next} {w' : World} {K : Act → World → Prop} {a : Act} {w : World} (hb : Bare P op) (hr : (execOp a.eval ⟨none, op, t, "", #[], none⟩).run P w = .ok x w') (hx : x = .value v ∨ (x = .skip ∧ v = undef)) (hK : K (a.put dst v) w') :
    (⟨dst, op, t, p, af, none⟩ : Oper).wpIn F m P a w K Q := by
  unfold Oper.wpIn
  refine ⟨fun f hf => ?_, ?_⟩
  · have h1 : (⟨dst, op, t, p, af, none⟩ : Oper).about P w a.eval = (⟨none, op, t, "", #[], none⟩ : Oper).about P w a.eval := rfl
    rw [h1, hb.1] at hf; cases hf
  · rw [Oper.semAt_plain F _ _ hb.2]
    have h1 : (execOp a.eval ⟨dst, op, t, p, af, none⟩).run P w = .ok x w' := hr
    rw [h1]
    rcases hx with rfl | ⟨rfl, rfl⟩ <;> exact hK
theorem gi_rd (hb : Bare P op) (hn : Nat.blt d n = true) (hr : Rd P E H L op t v) (h : GI F m P ops Q n ((d, v) :: E) l H L) : GI F m P ops Q n E (⟨some d, op, t, p, af, none⟩ :: l) H L := by
  intro a w hA hS
  refine wpListIn_plain rfl fun K hK => ?_
  exact step_in hb (hr a w n hA hS) (.inl rfl) (hK _ _ (h _ w (hA.put (blt_lt hn) v) hS))
theorem gi_ny {R : Value → Gh → Chunks → Prop} (hb : Bare P op) (hn : Nat.blt d n = true) (hr : Ny P E H L op t R) (h : ∀ v H' L', H ≤ H' → R v H' L' → GI F m P ops Q n ((d, v) :: E) l H' L') : GI F m P ops Q n E (⟨some d, op, t, p, af, none⟩ :: l) H L := by
  intro a w hA hS
  refine wpListIn_plain rfl fun K hK => ?_
  obtain ⟨x, w', H', L', v, h1, h2, h3, h4, h5⟩ := hr a w n hA hS
  exact step_in hb h1 h2 (hK _ _ (h v H' L' h3 h5 _ w' (hA.put (blt_lt hn) v) h4))
theorem gi_ny0 {R : Value → Gh → Chunks → Prop} (hb : Bare P op) (hr : Ny P E H L op t R) (h : ∀ v H' L', H ≤ H' → R v H' L' → GI F m P ops Q n E l H' L') : GI F m P ops Q n E (⟨none, op, t, p, af, none⟩ :: l) H L := by
  intro a w hA hS
  refine wpListIn_plain rfl fun K hK => ?_
  obtain ⟨x, w', H', L', v, h1, h2, h3, h4, h5⟩ := hr a w n hA hS
  exact step_in hb h1 h2 (hK _ _ (h v H' L' h3 h5 _ w' hA h4))
/-- A call of yield. -/
theorem gi_yield {F : Fence} {f : Nat} {fx : Operand} {xs : List Operand} {ts : Array TypeId} {vs : List Value} {R : Value → Gh → Chunks → Prop} (hro : F.depth = none) (hn : Nat.blt d n = true) (hf : ev E fx = some (.func (.yield f) #[] #[])) (hxs : evs E xs = some vs)
    (hy : ∀ w, Sat w H L → YieldAt F (m - 1) P f vs.toArray w fun e w' => ∃ v H' L', e = .returned v ∧ H ≤ H' ∧ Sat w' H' L' ∧ R v H' L')
    (h : ∀ v H' L', H ≤ H' → R v H' L' → GI F m P ops Q n ((d, v) :: E) l H' L') : GI F m P ops Q n E (⟨some d, .call ⟨.value fx, xs.toArray, ts⟩, t, p, af, none⟩ :: l) H L := by
  intro a w hA hS
  refine wpListIn_plain rfl fun K hK => ?_
  obtain ⟨fn, tmps, assign, body, hyr, hR⟩ := hy w hS
  have e1 : (xs.toArray.map a.eval) = vs.toArray := by rw [List.map_toArray, evs_spec hA xs vs hxs]
  have e2 : (execOp a.eval ⟨some d, .call ⟨.value fx, xs.toArray, ts⟩, t, p, af, none⟩).run P w = .ok (.round f fn tmps assign body) w := by
    have e3 : (execOp a.eval ⟨some d, .call ⟨.value fx, xs.toArray, ts⟩, t, p, af, none⟩) = (do let d ← resolve a.eval ⟨.value fx, xs.toArray, ts⟩ t; invoke d.target d.args) := rfl
    rw [e3]
    simp only [resolve, e1, hA.ev hf, Deferred.ofValue]
    simpa [invoke] using hyr
  unfold Oper.wpIn
  refine ⟨fun g hg => ?_, ?_⟩
  · simp [Oper.about, resolve, e1, hA.ev hf, Deferred.ofValue, Target.leads] at hg
  · rw [Oper.semAt_plain F _ _ (fun c h => by cases h), e2]
    simp only [Oper.uponIn]
    refine ⟨fun h => (by rw [hro] at h; cases h), hR.mono ?_⟩
    rintro e w' ⟨v, H', L', rfl, h1, h2, h3⟩
    exact hK _ _ (h v H' L' h1 h3 _ w' (hA.put (blt_lt hn) v) h2)
/-- A region in the text's own order, by steps inside the wide fence. -/
theorem gc_wide {id : Nat} {l : List Oper} (h : GI Fence.wide 1 P l.toArray Q n E l H L) : GC P (.region id l.toArray false) Q n E H L := fun a w hA hS =>
  wpIn_wide.1 (wpIn_region_lit (h a w hA hS))
end

/-! ## The iterator's object -/
section
variable {P : Program} {E : Env} {H : Gh} {L : Chunks} {t T k e : TypeId} {x : Operand} {b r : Nat} {ob iq : Obj} {m : List (Nm × Value)} {xs : List Nm} {cnt : Nat}
/-- ob is a map of the entries m, the other an iterator over block b, which is ob; xs have come. -/
def ItO (b : Nat) (ob iq : Obj) (m : List (Nm × Value)) (xs : List Nm) (cnt : Nat) : Prop :=
  ∀ (w : World) (r : Nat), w.heap[b]? = some ob → w.heap[r]? = some iq → RgN w b r m xs cnt
theorem RgN.items {w : World} (h : RgN w b r m xs cnt) : ∃ ob iq, w.heap[b]? = some ob ∧ w.heap[r]? = some iq ∧ ItO b ob iq m xs cnt := by
  obtain ⟨es, clock, since, seen, c0, hb, h1, h2, h3, hr, rest⟩ := h
  exact ⟨_, _, hb, hr, fun w' r' hb' hr' => ⟨es, clock, since, seen, c0, hb', h1, h2, h3, hr', rest⟩⟩
theorem nx_range {hd : Obj} (ht : P.underlying T = some (.map k e)) (hx : ev E x = some (.map (some b))) (hM : MapO ob m) (hb : (b, ob) ∈ L) :
    Nx P E H L (.range T x) t (fun v H' L' => ∃ r iq, v = pt r 0 ∧ H = H' ∧ ItO b ob iq m [] m.length ∧ (r, iq) :: L = L') :=
  Nx.of_run fun a w N hA hS => by
    have hbw := (hS.own _ hb).1
    obtain ⟨es, c, rfl, hes, hpw, hlt, hnd⟩ := hM
    have hrun := run_range_map (P := P) w T k e b (es.map ment).toArray c ht hbw
    obtain ⟨w', h1, h2, h3, h4⟩ := RgN.start (P := P) hbw ⟨es, c, rfl, hes, hpw, hlt, hnd⟩ ht
    rw [hrun] at h1
    simp only [Result.ok.injEq] at h1
    have hw' := h1.2
    obtain ⟨ob', iq, hb', hit, hI⟩ := h2.items
    have hsat : Sat w' H ((w.heap.size, .mapIter (some b) c #[] c) :: L) := by rw [← hw']; exact hS.new _
    have e1 := (hsat.own _ List.mem_cons_self).1
    have e2 := (hsat.own _ (List.mem_cons_of_mem _ hb)).1
    rw [hit] at e1; cases e1
    rw [hb'] at e2; cases e2
    refine ⟨.value (pt w.heap.size 0), w', H, _, _, ?_, .inl rfl, Gh.le_refl _, hsat, _, _, rfl, rfl, hI, rfl⟩
    simp only [execOp, hA.ev hx, Sem.run_bind, hrun, Result.andThen_ok, Sem.run_pure, hw']
/-- The step: done, or a name comes. -/
theorem sat_next {w : World} (hS : Sat w H L) (hb : (b, ob) ∈ L) {i : Nat} (hi : L[i]? = some (r, iq)) (hI : ItO b ob iq m xs cnt) (ty : TypeId) :
    (xs.Perm (m.map (·.1)) ∧ (Instr.next (pt r 0) false ty).run P w = .ok (.tuple #[.bool false]) w) ∨
    ∃ n v w' iq' cnt', n ∉ xs ∧ n ∈ m.map (·.1) ∧ (Instr.next (pt r 0) false ty).run P w = .ok (.tuple #[.bool true, ag (encId n), v]) w' ∧ ItO b ob iq' m (xs ++ [n]) cnt' ∧ cnt' < cnt ∧ Sat w' H (L.set i (r, iq')) ∧
      (∀ w'' , w''.heap[b]? = some ob → w''.heap[r]? = some iq' → (Instr.entry (pt r 0)).run P w'' = .ok (.tuple #[ag (encId n), v]) w'') := by
  have hbw := (hS.own _ hb).1
  have hrw := (hS.own _ (List.mem_of_getElem? hi)).1
  have hR := hI w r hbw hrw
  have hne := hR.ne
  rcases hR.next (P := P) ty with ⟨h1, h2⟩ | ⟨n, v, w', cnt', h1, h2, h3, h4, h5, h6, h7, h8, h9⟩
  · exact .inl ⟨h1, h2⟩
  · obtain ⟨ob', iq', hb', hit, hI'⟩ := h4.items
    have hbb : w'.heap[b]? = w.heap[b]? := h6.block b (Array.getElem?_eq_some_iff.1 hbw).1 (fun e => hne (Option.some.inj e).symm)
    have : ob' = ob := by rw [hbb, hbw] at hb'; cases hb'; rfl
    subst this
    refine .inr ⟨n, v, w', iq', cnt', h1, h2, h3, hI', h5, ?_, fun w'' hb2 hr2 => ?_⟩
    · refine hS.put hi iq' h6.os h6.tape h9 h6.output hit fun j hj => ?_
      by_cases hlt : j < w.heap.size
      · exact h6.block j hlt (fun e => hj (Option.some.inj e))
      · rw [Array.getElem?_eq_none (by omega), Array.getElem?_eq_none (by omega)]
    · have hg : ∀ q : Nat, q = b ∨ q = r → w''.heap[q]? = w'.heap[q]? := by
        rintro q (rfl | rfl)
        · rw [hb2, hb']
        · rw [hr2, hit]
      obtain ⟨es, clock, since, seen, c0, k1, _, _, _, k2, _⟩ := h4
      rw [hb'] at k1; cases k1
      rw [hit] at k2; cases k2
      have e1 : (getObj r).run P w' = .ok (.mapIter (some b) since seen c0) w' := by simp [getObj, Sem.run, hit]
      have e2 : (getObj r).run P w'' = .ok (.mapIter (some b) since seen c0) w'' := by simp [getObj, Sem.run, hr2]
      have e3 : (getObj b).run P w' = .ok (.map (es.map ment).toArray clock) w' := by simp [getObj, Sem.run, hb']
      have e4 : (getObj b).run P w'' = .ok (.map (es.map ment).toArray clock) w'' := by simp [getObj, Sem.run, hb2]
      simp only [Instr.entry, Sem.run_bind, e1, e3, Result.andThen_ok] at h8
      simp only [Instr.entry, Sem.run_bind, e2, e4, Result.andThen_ok]
      cases hsb : seen.back? with
      | none => rw [hsb] at h8; simp at h8
      | some st =>
        rw [hsb] at h8
        simp only [Sem.run_bind, e3, e4, Result.andThen_ok] at h8 ⊢
        cases hcl : (clock != c0) with
        | true => rw [hcl] at h8; simp at h8
        | false =>
          rw [hcl] at h8
          simp only [Bool.false_eq_true, if_false] at h8 ⊢
          cases hfd : (List.map ment es).toArray.find? (fun e => e.born == st) with
          | none => rw [hfd] at h8; simp at h8
          | some q => rw [hfd] at h8; simp at h8 ⊢; exact h8
end
end Go.VK
namespace Go.VK
open Go.Tr Go.Proofs
section
variable {P : Program} {E : Env} {H : Gh} {L : Chunks} {t : TypeId} {x : Operand} {b r : Nat} {ob iq : Obj} {m : List (Nm × Value)} {xs : List Nm} {cnt : Nat}
theorem nx_next (hx : ev E x = some (pt r 0)) (hb : (b, ob) ∈ L) (hI : ItO b ob iq m xs cnt) :
    Nx P E H ((r, iq) :: L) (.next x false) t (fun v H' L' => ∃ c vs iq', v = .tuple vs ∧ vs[0]? = some (.bool c) ∧ H = H' ∧ L' = (r, iq') :: L ∧ (c = false → xs.Perm (m.map (·.1))) ∧
      (c = true → ∃ n u cnt', n ∉ xs ∧ n ∈ m.map (·.1) ∧ ItO b ob iq' m (xs ++ [n]) cnt' ∧ cnt' < cnt ∧ ∀ w : World, w.heap[b]? = some ob → w.heap[r]? = some iq' → (Instr.entry (pt r 0)).run P w = .ok (.tuple #[ag (encId n), u]) w)) :=
  Nx.of_run fun a w N hA hS => by
    rcases sat_next (P := P) hS (List.mem_cons_of_mem _ hb) (i := 0) rfl hI t with ⟨h1, h2⟩ | ⟨n, u, w', iq', cnt', h1, h2, h3, h4, h5, h6, h7⟩
    · refine ⟨.value (.tuple #[.bool false]), w, H, _, _, ?_, .inl rfl, Gh.le_refl _, hS, false, _, iq, rfl, rfl, rfl, rfl, fun _ => h1, fun h => by cases h⟩
      simp only [execOp, hA.ev hx, Sem.run_bind, h2, Result.andThen_ok, Sem.run_pure]
    · refine ⟨.value (.tuple #[.bool true, ag (encId n), u]), w', H, _, _, ?_, .inl rfl, Gh.le_refl _, h6, true, _, iq', rfl, rfl, rfl, rfl, (fun h => by cases h), fun _ => ⟨n, u, cnt', h1, h2, h4, h5, h7⟩⟩
      simp only [execOp, hA.ev hx, Sem.run_bind, h3, Result.andThen_ok, Sem.run_pure]
theorem rd_entry {v : Value} (hx : ev E x = some (pt r 0)) (hb : (b, ob) ∈ L) (hr : (r, iq) ∈ L) (h : ∀ w : World, w.heap[b]? = some ob → w.heap[r]? = some iq → (Instr.entry (pt r 0)).run P w = .ok v w) : Rd P E H L (.entry x) t v := fun a w n hA hS => by
  have h2 := h w (hS.own _ hb).1 (hS.own _ hr).1
  simp only [execOp, hA.ev hx, Sem.run_bind, h2, Result.andThen_ok, Sem.run_pure]
theorem ItO.len {w : World} (h : ItO b ob iq m xs cnt) (hS : Sat w H L) (hb : (b, ob) ∈ L) (hr : (r, iq) ∈ L) : xs.length ≤ m.length :=
  (h w r (hS.own _ hb).1 (hS.own _ hr).1).len
theorem Sat.putObj {w : World} {i l : Nat} {o : Obj} (h : Sat w H L) (hi : L[i]? = some (l, o)) (o' : Obj) : Sat (w.putObj l o') H (L.set i (l, o')) :=
  h.put hi o' rfl rfl (Nat.le_refl _) rfl (World.putObj_heap_same (h.lt_own (List.mem_of_getElem? hi))) (fun j hj => World.putObj_heap_other hj)
end
end Go.VK
namespace Go.VK
open Go.Tr Go.Proofs
section
variable {P : Program} {E : Env} {H : Gh} {L : Chunks} {n : Nat} {Q : Exit → Act → World → Prop} {g : Operand} {ps : Array Tmp} {A B : Code}
/-- The codes of a range over a function, as variables. -/
theorem gc_rf_open (h : ∀ A' B' : Code, A' = A → B' = B → GC P (.rangeFunc g ps A' B') Q n E H L) : GC P (.rangeFunc g ps A B) Q n E H L := h A B rfl rfl
theorem at_args {args : List Value} (hle : args.length ≤ n) : At { tmps := args.toArray ++ Array.replicate (n - args.toArray.size) undef, defers := [] } n (argEnv 0 args) := by
  refine ⟨rfl, ?_, fun i v hv => ?_⟩
  · simp; omega
  · obtain ⟨_, h2⟩ := argEnv_find args 0 i v hv
    have hl : i < args.length := (List.getElem?_eq_some_iff.1 (by simpa using h2)).1
    have h3 : args[i]? = some v := by simpa using h2
    have h4 : args[i] = v := by rw [List.getElem?_eq_getElem hl] at h3; exact Option.some.inj h3
    simp [Array.getD_eq_getD_getElem?, Array.getElem?_append, hl, h4]
/-- One operation that only looks, whatever is deferred. -/
theorem rd_defers {op : Op} {t : TypeId} {v : Value} {a : Act} {w : World} (hr : Rd P E H L op t v) (hA : At { a with defers := [] } n E) (hS : Sat w H L) : (execOp a.eval ⟨none, op, t, "", #[], none⟩).run P w = .ok (.value v) w :=
  hr { a with defers := [] } w n hA hS
end
end Go.VK
