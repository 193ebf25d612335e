/-
  Fields of values; maps keyed by names: deletions, entries that are counted up; operations and counts that lie in maps.
-/
import Derived.Test.YtfhldfjknagidaaDoorVKn
import Derived.Test.YtfhldfjknagidaaDoorVKi
set_option linter.unusedSimpArgs false
set_option linter.unusedVariables false
namespace Go.VK
open Go.Tr

section
variable {P : Program} {E : Env} {H : Gh} {L L' : Chunks} {t T K EL : TypeId} {x y z c : Operand} {v u : Value} {b bm o : Nat}

theorem rd_field1 {fs : Array Field} {f : Field} {l : List Value} {i : Nat} (hT : P.underlying T = some (.struct fs)) (hf : fs[i]? = some f) (h1 : TOne P f.type) (hx : ev E x = some (ag l)) (hv : l[f.offset]? = some v) :
    Rd P E H L (.field T x i) t v := fun a w n hA _ => by
  simp [execOp, hA.ev hx, Instr.field, run_underlying hT, hf, asAgg, part, h1.1, hv]

theorem run_setObj_map {w : World} {r : Nat} {o' : Obj} {es : Array MapEntry} {c : Nat} (hb : w.heap[r]? = some (.map es c)) : (setObj r o').run P w = .ok () { w with heap := w.heap.setIfInBounds r o' } := by simp [setObj, Sem.run, hb]

/-! ## Look-ups behind stores and deletions -/
theorem look_storeM (m : List (Nm × Value)) (n : Nm) (u : Value) (n' : Nm) : look (storeM m n u) n' = if n = n' then some u else look m n' := by
  unfold storeM
  by_cases ha : (m.any fun p => p.1 == n) = true
  · rw [if_pos ha]
    induction m with
    | nil => simp at ha
    | cons p r ih =>
      by_cases hp : p.1 = n
      · have e1 : (p.1 == n) = true := by simp [hp]
        by_cases hn : n = n'
        · subst hn
          rw [if_pos rfl]
          simp only [List.map_cons, e1, if_true, look, List.find?_cons, beq_self_eq_true, Option.map_some]
        · have e2 : (n == n') = false := by simp [hn]
          have e3 : (p.1 == n') = false := by rw [hp]; exact e2
          simp only [List.map_cons, e1, if_true, look, List.find?_cons, e2, e3, if_neg hn]
          by_cases hr : (r.any fun p => p.1 == n) = true
          · have := ih hr
            rw [if_neg hn] at this
            exact this
          · have : (r.map fun p => if p.1 == n then (n, u) else p) = r := by
              have h0 : ∀ q ∈ r, (q.1 == n) = false := by
                intro q hq
                cases hh : q.1 == n with
                | false => rfl
                | true => exact absurd (List.any_eq_true.2 ⟨q, hq, hh⟩) hr
              conv => rhs; rw [← List.map_id r]
              apply List.map_congr_left
              intro q hq; simp [h0 q hq]
            rw [this]
      · have e1 : (p.1 == n) = false := by simp [hp]
        have hr : (r.any fun p => p.1 == n) = true := by simpa [e1] using ha
        have := ih hr
        simp only [List.map_cons, e1, Bool.false_eq_true, if_false, look, List.find?_cons] at this ⊢
        cases hq : p.1 == n' with
        | true =>
          have hne : ¬ n = n' := fun e => hp (by rw [e]; simpa using hq)
          simp [hne]
        | false => simpa using this
  · rw [if_neg ha]
    have h0 : ∀ q ∈ m, (q.1 == n) = false := by
      intro q hq
      cases hh : q.1 == n with
      | false => rfl
      | true => exact absurd (List.any_eq_true.2 ⟨q, hq, hh⟩) ha
    simp only [look, List.find?_append]
    by_cases hn : n = n'
    · subst hn
      have : m.find? (fun p => p.1 == n) = none := by
        rw [List.find?_eq_none]; intro q hq; simp [h0 q hq]
      simp [this]
    · have e2 : (n == n') = false := by simp [hn]
      cases hf : m.find? (fun p => p.1 == n') <;> simp [hn, e2, List.find?_cons]

theorem storeM_new {m : List (Nm × Value)} {n : Nm} {u : Value} (h : look m n = none) : storeM m n u = m ++ [(n, u)] := by
  unfold storeM
  rw [if_neg]
  intro ha
  obtain ⟨p, hp, he⟩ := List.any_eq_true.1 ha
  simp only [look, Option.map_eq_none_iff, List.find?_eq_none] at h
  exact h p hp he
theorem dropM_none {m : List (Nm × Value)} {n : Nm} (h : look m n = none) : dropM m n = m := by
  unfold dropM
  rw [List.filter_eq_self]
  intro p hp
  simp only [look, Option.map_eq_none_iff, List.find?_eq_none] at h
  have := h p hp
  simpa using this

/-! ## Deletions -/
theorem delete_run {e : TypeId} (hT : TMap P T K EL e) {w : World} {bm : Nat} {ob : Obj} {m : List (Nm × Value)} (hb : w.heap[bm]? = some ob) (hm : MapO ob m) (n : Nm) (K' ty : TypeId) :
    ∃ ob', (Builtin.delete_ #[T, K'] ty #[.map (some bm), ag (encId n)]).run P w = .ok (.tuple #[]) { w with heap := w.heap.setIfInBounds bm ob' } ∧ MapO ob' (dropM m n) := by
  obtain ⟨es, c, rfl, rfl, hpw, hlt, hnd⟩ := hm
  have hg : (getObj bm).run P w = .ok (.map (es.map ment).toArray c) w := by simp [getObj, Sem.run, hb]
  have hc := run_checkKey hT.key w ((es.map ment).toArray).isEmpty n 9998
  obtain ⟨r, hr, hl⟩ := run_findKey' hT.key w n es
  have hset : ∀ o, (setObj bm o).run P w = .ok () { w with heap := w.heap.setIfInBounds bm o } := fun o => run_setObj_map hb
  cases hlk : look (es.map fun p => (p.1, p.2.1)) n with
  | none =>
    rw [hlk] at hl
    subst hl
    refine ⟨.map (es.map ment).toArray c, ?_, es, c, rfl, (dropM_none hlk).symm, hpw, hlt, by rw [dropM_none hlk]; exact hnd⟩
    simp only [Builtin.delete_, List.getElem?_toArray, List.getElem?_cons_zero, List.getElem?_cons_succ, Sem.run_bind, run_underlying hT.und, hg, hc, hr, Result.andThen_ok, hset, Sem.run_pure]
  | some v0 =>
    rw [hlk] at hl
    obtain ⟨j, rfl, hj⟩ := hl
    obtain ⟨pre, v, bb, post, rfl, rfl, hpre⟩ := findIdx_split n es j hj
    have hpost : ∀ p ∈ post, p.1 ≠ n := by
      intro p hp he
      rw [List.map_map, List.map_append, List.map_cons, List.nodup_append] at hnd
      have := hnd.2.1
      rw [List.nodup_cons] at this
      exact this.1 (List.mem_map.2 ⟨p, hp, by simpa using he⟩)
    have hd : dropM ((pre ++ (n, v, bb) :: post).map fun p => (p.1, p.2.1)) n = (pre ++ post).map fun p => (p.1, p.2.1) := by
      simp only [dropM, List.map_append, List.map_cons, List.filter_append, List.filter_cons, beq_self_eq_true, Bool.not_true, Bool.false_eq_true, if_false]
      congr 1
      · rw [List.filter_eq_self]; intro p hp
        obtain ⟨q, hq, rfl⟩ := List.mem_map.1 hp
        simpa using hpre q hq
      · rw [List.filter_eq_self]; intro p hp
        obtain ⟨q, hq, rfl⟩ := List.mem_map.1 hp
        simpa using hpost q hq
    have he : (((pre ++ (n, v, bb) :: post).map ment).toArray).eraseIdxIfInBounds pre.length = ((pre ++ post).map ment).toArray := by
      apply Array.ext'
      simp only [Array.toList_eraseIdxIfInBounds]
      rw [List.map_append, List.map_cons, show pre.length = (pre.map ment).length by simp, List.eraseIdx_append_of_length_le (Nat.le_refl _)]
      simp
    refine ⟨.map ((pre ++ post).map ment).toArray c, ?_, pre ++ post, c, rfl, hd.symm, ?_, fun p hp => hlt p (by rcases List.mem_append.1 hp with h | h <;> simp [h]), ?_⟩
    · simp only [Builtin.delete_, List.getElem?_toArray, List.getElem?_cons_zero, List.getElem?_cons_succ, Sem.run_bind, run_underlying hT.und, hg, hc, hr, Result.andThen_ok, hset, he, Sem.run_pure]
    · exact hpw.sublist (List.Sublist.append (List.Sublist.refl _) (List.sublist_cons_self _ _))
    · rw [hd]
      exact hnd.sublist (List.Sublist.map _ (List.Sublist.map _ (List.Sublist.append (List.Sublist.refl _) (List.sublist_cons_self _ _))))

theorem nx_delete {e K' : TypeId} (hT : TMap P T K EL e) {F : Obj → Chunks} {ob : Obj} {m : List (Nm × Value)} {n : Nm} (hx : ev E x = some (.map (some bm))) (hy : ev E y = some (ag (encId n)))
    (hm : MapO ob m) (hu : ∀ ob', Upd bm ob ob' L (F ob')) : Nx P E H L (.call ⟨.builtin .delete, #[x, y], #[T, K']⟩) t (fun _ H' L' => ∃ ob', H = H' ∧ MapO ob' (dropM m n) ∧ L' = F ob') :=
  Nx.of_run fun a w N hA hS => by
    obtain ⟨k, hk, _⟩ := (hu ob).spec
    obtain ⟨ob', h2, h3⟩ := delete_run hT (hS.own _ (List.mem_of_getElem? hk)).1 hm n K' t
    refine ⟨.value (.tuple #[]), _, H, F ob', _, ?_, .inl rfl, Gh.le_refl _, sat_setObj hS (hu ob'), ob', rfl, h3, rfl⟩
    simp [execOp, resolve, invoke, builtin, hA.ev hx, hA.ev hy, h2]

/-! ## An entry that is counted up: its look-up and its store -/
/-- The map m; the entry of n was born then. -/
def MapAt (o : Obj) (m : List (Nm × Value)) (n : Nm) (born : Nat) : Prop :=
  ∃ (es : List (Nm × Value × Nat)) (c : Nat), o = .map (es.map ment).toArray c ∧ es.map (fun p => (p.1, p.2.1)) = m ∧ es.Pairwise (fun p q => p.2.2 < q.2.2) ∧ (∀ p ∈ es, p.2.2 < c) ∧ (m.map (·.1)).Nodup ∧ ∃ v, (n, v, born) ∈ es
theorem MapAt.mapO {o : Obj} {m : List (Nm × Value)} {n : Nm} {born : Nat} (h : MapAt o m n born) : MapO o m := by
  obtain ⟨es, c, h1, h2, h3, h4, h5, _⟩ := h
  exact ⟨es, c, h1, h2, h3, h4, h5⟩

theorem mapEntry_run {e : TypeId} {zz : Value} (hT : TMap P T K EL e) (hz : ∀ w, (zeroValue EL).run P w = .ok zz w) {w : World} {bm : Nat} {ob : Obj} {m : List (Nm × Value)} (hb : w.heap[bm]? = some ob) (hm : MapO ob m) (n : Nm) :
    ∃ (ob' : Obj) (m' : List (Nm × Value)) (born : Nat), (Instr.mapEntry T (.map (some bm)) (ag (encId n))).run P w = .ok (.tuple #[(look m n).getD zz, goInt (born : Int)]) { w with heap := w.heap.setIfInBounds bm ob' } ∧ MapAt ob' m' n born ∧ ∀ n', look m' n' = if n = n' then some ((look m n).getD zz) else look m n' := by
  obtain ⟨es, c, rfl, rfl, hpw, hlt, hnd⟩ := hm
  have hg : (getObj bm).run P w = .ok (.map (es.map ment).toArray c) w := by simp [getObj, Sem.run, hb]
  have hc := run_checkKey hT.key w false n 9998
  obtain ⟨r, hr, hl⟩ := run_findKey' hT.key w n es
  have hset : ∀ o, (setObj bm o).run P w = .ok () { w with heap := w.heap.setIfInBounds bm o } := fun o => run_setObj_map hb
  cases hlk : look (es.map fun p => (p.1, p.2.1)) n with
  | none =>
    rw [hlk] at hl
    subst hl
    have hno : ∀ p ∈ es, p.1 ≠ n := by
      have := (look_none_iff n es).2 hlk
      rw [List.findIdx?_eq_none_iff] at this
      intro p hp; simpa using this p hp
    refine ⟨.map ((es.map ment).toArray.push (ment (n, zz, c))) (c + 1), (es.map fun p => (p.1, p.2.1)) ++ [(n, zz)], c, ?_, ⟨es ++ [(n, zz, c)], c + 1, by simp, by simp, ?_, ?_, ?_, zz, by simp⟩, fun n' => ?_⟩
    · simp only [Instr.mapEntry, Sem.run_bind, run_underlying hT.und, Result.andThen_ok, hg, hc, hr, hz, hset, Sem.run_pure]
      rfl
    · rw [List.pairwise_append]
      exact ⟨hpw, by simp, fun p hp q hq => by simp at hq; subst hq; exact hlt p hp⟩
    · intro p hp
      rcases List.mem_append.1 hp with hp | hp
      · have := hlt p hp; omega
      · simp at hp; subst hp; simp
    · simp only [List.map_append, List.map_cons, List.map_nil]
      rw [List.nodup_append]
      refine ⟨hnd, by simp, ?_⟩
      intro x hx y hy
      simp at hy; subst hy
      obtain ⟨p, hp, rfl⟩ := List.mem_map.1 hx
      obtain ⟨q, hq, rfl⟩ := List.mem_map.1 hp
      exact hno q hq
    · have := look_storeM (es.map fun p => (p.1, p.2.1)) n zz n'
      rw [storeM_new hlk] at this
      exact this
  | some v0 =>
    rw [hlk] at hl
    obtain ⟨j, rfl, hj⟩ := hl
    obtain ⟨pre, v, bb, post, rfl, rfl, hpre⟩ := findIdx_split n es j hj
    have hv : v0 = v := by rw [look_split hpre] at hlk; cases hlk; rfl
    subst hv
    refine ⟨.map ((pre ++ (n, v0, bb) :: post).map ment).toArray c, _, bb, ?_, ⟨pre ++ (n, v0, bb) :: post, c, rfl, rfl, hpw, hlt, hnd, v0, by simp⟩, fun n' => ?_⟩
    · have hk : (((((pre ++ (n, v0, bb) :: post).map ment).toArray)[pre.length]?).map (·.key)).getD (ag (encId n)) = ag (encId n) := by
        simp [ment]
      have hborn : (((((pre ++ (n, v0, bb) :: post).map ment).toArray)[pre.length]?).map fun e => (e.born : Int)).getD 0 = (bb : Int) := by
        simp [ment]
      have hs := sameBits_id n 9998
      have hks : (Instr.keyThatStays (ag (encId n)) (ag (encId n))).run P w = .ok (ag (encId n)) w := by
        rw [Instr.keyThatStays, if_pos hs]; rfl
      have hmod : ((((pre ++ (n, v0, bb) :: post).map ment).toArray).modify pre.length fun e => { e with key := ag (encId n) }) = ((pre ++ (n, v0, bb) :: post).map ment).toArray := by
        apply Array.ext'
        rw [Array.toList_modify]
        simp only [List.map_append, List.map_cons]
        have : (pre.map ment).length = pre.length := by simp
        rw [← this, modify_mid]
        rfl
      simp only [Instr.mapEntry, Sem.run_bind, run_underlying hT.und, Result.andThen_ok, hg, hc, hr, hk, hks, hborn, hmod, hset, Sem.run_pure]
      rfl
    · by_cases hn : n = n'
      · subst hn; rw [if_pos rfl, hlk]; rfl
      · rw [if_neg hn]

theorem nx_mapEntry {e : TypeId} {zz : Value} (hT : TMap P T K EL e) (hz : ∀ w, (zeroValue EL).run P w = .ok zz w) {F : Obj → Chunks} {ob : Obj} {m : List (Nm × Value)} {n : Nm} (hx : ev E x = some (.map (some bm))) (hy : ev E y = some (ag (encId n)))
    (hm : MapO ob m) (hu : ∀ ob', Upd bm ob ob' L (F ob')) : Nx P E H L (.mapEntry T x y) t (fun v H' L' => ∃ (ob' : Obj) (m' : List (Nm × Value)) (born : Nat), v = .tuple #[(look m n).getD zz, i64 (born : Int)] ∧ H = H' ∧ MapAt ob' m' n born ∧ (∀ n', look m' n' = if n = n' then some ((look m n).getD zz) else look m n') ∧ L' = F ob') :=
  Nx.of_run fun a w N hA hS => by
    obtain ⟨k, hk, _⟩ := (hu ob).spec
    obtain ⟨ob', m', born, h2, h3, h5⟩ := mapEntry_run hT hz (hS.own _ (List.mem_of_getElem? hk)).1 hm n
    refine ⟨.value (.tuple #[(look m n).getD zz, goInt (born : Int)]), _, H, F ob', _, ?_, .inl rfl, Gh.le_refl _, sat_setObj hS (hu ob'), ob', m', born, rfl, rfl, h3, h5, rfl⟩
    simp only [execOp, hA.ev hx, hA.ev hy, Sem.run_bind, h2, Result.andThen_ok, Sem.run_pure]

theorem entryStore_run {w : World} {bm : Nat} {ob : Obj} {m : List (Nm × Value)} {n : Nm} {born : Nat} (hb : w.heap[bm]? = some ob) (hm : MapAt ob m n born) (u : Value) (T : TypeId) :
    ∃ ob' m', (Instr.entryStore T (.map (some bm)) (i64 (born : Int)) u).run P w = .ok () { w with heap := w.heap.setIfInBounds bm ob' } ∧ MapO ob' m' ∧ ∀ n', look m' n' = if n = n' then some u else look m n' := by
  obtain ⟨es, c, rfl, rfl, hpw, hlt, hnd, v, hv⟩ := hm
  have hg : (getObj bm).run P w = .ok (.map (es.map ment).toArray c) w := by simp [getObj, Sem.run, hb]
  have hset : ∀ o, (setObj bm o).run P w = .ok () { w with heap := w.heap.setIfInBounds bm o } := fun o => run_setObj_map hb
  obtain ⟨pre, post, rfl⟩ := List.append_of_mem hv
  have hpre : ∀ p ∈ pre, p.2.2 ≠ born := by
    intro p hp
    rw [List.pairwise_append] at hpw
    have := hpw.2.2 p hp (n, v, born) (by simp)
    simp at this; omega
  have hf : ((pre ++ (n, v, born) :: post).map ment).toArray.findIdx? (fun e => (e.born : Int) == (born : Int)) = some pre.length := by
    rw [List.findIdx?_toArray, List.map_append, List.map_cons, List.findIdx?_append]
    have h0 : (pre.map ment).findIdx? (fun e => (e.born : Int) == (born : Int)) = none := by
      rw [List.findIdx?_eq_none_iff]
      intro e he
      obtain ⟨p, hp, rfl⟩ := List.mem_map.1 he
      have := hpre p hp
      simp [ment]; omega
    rw [h0]
    simp [List.findIdx?_cons, ment]
  have hkn : ∀ p ∈ pre, p.1 ≠ n := by
    intro p hp he
    rw [List.map_map, List.map_append, List.map_cons, List.nodup_append] at hnd
    exact hnd.2.2 p.1 (List.mem_map.2 ⟨p, hp, rfl⟩) n (by simp) he
  have hmod : ((((pre ++ (n, v, born) :: post).map ment).toArray).modify pre.length fun e => { e with val := u }) = ((pre ++ (n, u, born) :: post).map ment).toArray := by
    apply Array.ext'
    rw [Array.toList_modify]
    simp only [List.map_append, List.map_cons]
    have : (pre.map ment).length = pre.length := by simp
    rw [← this, modify_mid]
    rfl
  refine ⟨.map ((pre ++ (n, u, born) :: post).map ment).toArray c, (pre ++ (n, u, born) :: post).map fun p => (p.1, p.2.1), ?_, ⟨pre ++ (n, u, born) :: post, c, rfl, rfl, ?_, fun p hp => ?_, ?_⟩, fun n' => ?_⟩
  · have ha : (asInt (i64 (born : Int))).run P w = .ok (born : Int) w := rfl
    simp only [Instr.entryStore, Sem.run_bind, hg, ha, Result.andThen_ok, hf, hmod, hset]
  · rw [List.pairwise_append, List.pairwise_cons] at hpw ⊢
    refine ⟨hpw.1, hpw.2.1, fun x hx y hy => ?_⟩
    rcases List.mem_cons.1 hy with rfl | hy
    · exact hpw.2.2 x hx (n, v, born) (by simp)
    · exact hpw.2.2 x hx y (by simp [hy])
  · rcases List.mem_append.1 hp with hp | hp
    · exact hlt p (by simp [hp])
    · rcases List.mem_cons.1 hp with rfl | hp
      · exact hlt (n, v, born) (by simp)
      · exact hlt p (by simp [hp])
  · simpa using hnd
  · by_cases hn : n = n'
    · subst hn
      rw [if_pos rfl, look_split hkn]
    · rw [if_neg hn]
      have e2 : (n == n') = false := by simp [hn]
      simp [look, List.find?_append, List.find?_cons, e2]

theorem nx_entryStore {F : Obj → Chunks} {ob : Obj} {m : List (Nm × Value)} {n : Nm} {born : Nat} (hx : ev E x = some (.map (some bm))) (hy : ev E y = some (i64 (born : Int))) (hz : ev E z = some u)
    (hm : MapAt ob m n born) (hu : ∀ ob', Upd bm ob ob' L (F ob')) : Nx P E H L (.entryStore T x y z) t (fun v H' L' => ∃ ob' m', v = undef ∧ H = H' ∧ MapO ob' m' ∧ (∀ n', look m' n' = if n = n' then some u else look m n') ∧ L' = F ob') :=
  Nx.of_run fun a w N hA hS => by
    obtain ⟨k, hk, _⟩ := (hu ob).spec
    obtain ⟨ob', m', h2, h3, h5⟩ := entryStore_run (P := P) (hS.own _ (List.mem_of_getElem? hk)).1 hm u T
    refine ⟨.skip, _, H, F ob', undef, ?_, .inr ⟨rfl, rfl⟩, Gh.le_refl _, sat_setObj hS (hu ob'), ob', m', rfl, rfl, h3, h5, rfl⟩
    simp only [execOp, hA.ev hx, hA.ev hy, hA.ev hz, Sem.run_bind, h2, Result.andThen_ok, Sem.run_pure]
end

section
variable {P : Program} {E : Env} {H : Gh} {L : Chunks} {t T K EL : TypeId} {x y z : Operand} {u : Value} {bm : Nat}
theorem nx_mapUpd {e : TypeId} (hT : TMap P T K EL e) {F : Obj → Chunks} {ob : Obj} {m : List (Nm × Value)} {n : Nm} (hx : ev E x = some (.map (some bm))) (hy : ev E y = some (ag (encId n))) (hz : ev E z = some u)
    (hm : MapO ob m) (hu : ∀ ob', Upd bm ob ob' L (F ob')) : Nx P E H L (.mapUpdate T x y z) t (fun v H' L' => ∃ ob', v = undef ∧ H = H' ∧ MapO ob' (storeM m n u) ∧ L' = F ob') :=
  Nx.of_run fun a w N hA hS => by
    obtain ⟨k, hk, _⟩ := (hu ob).spec
    obtain ⟨ob', h2, h3⟩ := mapUpdate_run hT (hS.own _ (List.mem_of_getElem? hk)).1 hm n u
    refine ⟨.skip, _, H, F ob', undef, ?_, .inr ⟨rfl, rfl⟩, Gh.le_refl _, sat_setObj hS (hu ob'), ob', rfl, rfl, h3, rfl⟩
    simp only [execOp, hA.ev hx, hA.ev hy, hA.ev hz, Sem.run_bind, h2, Result.andThen_ok, Sem.run_pure]
end

/-! ## Operations in a map; counts in a map -/
/-- The entries of the map o are the operations l, their lists of names standing for good. -/
def EntO (H : Gh) (o : Obj) (l : List (Nm × POp)) : Prop :=
  ∃ E : List (Nm × POp × Value), MapO o (E.map fun t => (t.1, ag (encOp t.2.1 t.2.2))) ∧ E.map (fun t => (t.1, t.2.1)) = l ∧ ∀ t ∈ E, Ids H [] t.2.2 t.2.1.preds
theorem EntO.up {H H' : Gh} {o : Obj} {l : List (Nm × POp)} (h : EntO H o l) (hH : H ≤ H') : EntO H' o l := by
  obtain ⟨E, h1, h2, h3⟩ := h
  exact ⟨E, h1, h2, fun t ht => (h3 t ht).up hH⟩
theorem EntO.nodup {H : Gh} {o : Obj} {l : List (Nm × POp)} (h : EntO H o l) : (l.map (·.1)).Nodup := by
  obtain ⟨E, ⟨es, c, _, h4, _, _, h5⟩, rfl, _⟩ := h
  simpa [List.map_map, Function.comp_def] using h5
/-- What a look-up gives. -/
theorem EntO.look {H : Gh} {o : Obj} {l : List (Nm × POp)} (h : EntO H o l) : ∃ m, MapO o m ∧ m.map (·.1) = l.map (·.1) ∧ ∀ n, (Tr.get l n = none ∧ VK.look m n = none) ∨ (∃ op pv, Tr.get l n = some op ∧ VK.look m n = some (ag (encOp op pv)) ∧ Ids H [] pv op.preds) := by
  obtain ⟨E, h1, rfl, h3⟩ := h
  refine ⟨_, h1, by simp [List.map_map, Function.comp_def], fun n => ?_⟩
  have hf : (E.map fun t => (t.1, ag (encOp t.2.1 t.2.2))).find? (fun p => p.1 == n) = (E.find? fun t => t.1 == n).map fun t => (t.1, ag (encOp t.2.1 t.2.2)) := by
    rw [List.find?_map]; rfl
  have hg : (E.map fun t => (t.1, t.2.1)).find? (fun p => p.1 == n) = (E.find? fun t => t.1 == n).map fun t => (t.1, t.2.1) := by
    rw [List.find?_map]; rfl
  simp only [Tr.get, VK.look, hf, hg]
  cases hx : E.find? (fun t => t.1 == n) with
  | none => exact .inl ⟨rfl, rfl⟩
  | some t => exact .inr ⟨t.2.1, t.2.2, rfl, rfl, h3 t (List.mem_of_find?_eq_some hx)⟩
/-- A new operation. -/
theorem EntO.store {H : Gh} {o : Obj} {l : List (Nm × POp)} (h : EntO H o l) {n : Nm} {op : POp} {pv : Value} (hn : has l n = false) (hp : Ids H [] pv op.preds) :
    ∃ m, MapO o m ∧ ∀ o', MapO o' (storeM m n (ag (encOp op pv))) → EntO H o' (l ++ [(n, op)]) := by
  obtain ⟨E, h1, rfl, h3⟩ := h
  refine ⟨_, h1, fun o' h' => ⟨E ++ [(n, op, pv)], ?_, by simp, fun t ht => ?_⟩⟩
  · have hl : VK.look (E.map fun t => (t.1, ag (encOp t.2.1 t.2.2))) n = none := by
      simp only [VK.look, Option.map_eq_none_iff, List.find?_eq_none]
      intro p hp
      obtain ⟨t, ht, rfl⟩ := List.mem_map.1 hp
      have := hn
      rw [has, List.any_eq_false] at this
      exact this (t.1, t.2.1) (List.mem_map.2 ⟨t, ht, rfl⟩)
    rw [storeM_new hl] at h'
    simpa using h'
  · rcases List.mem_append.1 ht with h | h
    · exact h3 t h
    · rw [List.mem_singleton.1 h]; exact hp
theorem EntO.drop {H : Gh} {o : Obj} {l : List (Nm × POp)} (h : EntO H o l) (n : Nm) : ∃ m, MapO o m ∧ ∀ o', MapO o' (dropM m n) → EntO H o' (l.filter fun p => !(p.1 == n)) := by
  obtain ⟨E, h1, rfl, h3⟩ := h
  refine ⟨_, h1, fun o' h' => ⟨E.filter fun t => !(t.1 == n), ?_, ?_, fun t ht => h3 t (List.mem_filter.1 ht).1⟩⟩
  · rw [dropM, List.filter_map] at h'; exact h'
  · rw [List.filter_map]; rfl
/-- Counts in a map. -/
def CntO (o : Obj) (f : Nm → Nat) : Prop := ∃ m, MapO o m ∧ ∀ n, (VK.look m n).getD (i64 0) = i64 (f n)
end Go.VK
