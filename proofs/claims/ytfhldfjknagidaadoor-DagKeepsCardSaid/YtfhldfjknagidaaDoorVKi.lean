/-
  Maps keyed by names: look-ups, stores, deletions.
-/
import Derived.Test.YtfhldfjknagidaaDoorVKh
set_option linter.unusedSimpArgs false
set_option linter.unusedVariables false
namespace Go.VK
open Go.Tr

/-- An entry: name, value, and when it was born. -/
def ment (p : Nm × Value × Nat) : MapEntry := { key := ag (encId p.1), val := p.2.1, born := p.2.2 }

/-- The object o is the map of the entries m, in the order in which they came. -/
def MapO (o : Obj) (m : List (Nm × Value)) : Prop :=
  ∃ (es : List (Nm × Value × Nat)) (c : Nat), o = .map (es.map ment).toArray c ∧ es.map (fun p => (p.1, p.2.1)) = m ∧ es.Pairwise (fun p q => p.2.2 < q.2.2) ∧ (∀ p ∈ es, p.2.2 < c) ∧ (m.map (·.1)).Nodup

def look (m : List (Nm × Value)) (n : Nm) : Option Value := (m.find? fun p => p.1 == n).map (·.2)
def storeM (m : List (Nm × Value)) (n : Nm) (v : Value) : List (Nm × Value) := if m.any (fun p => p.1 == n) then m.map fun p => if p.1 == n then (n, v) else p else m ++ [(n, v)]
def dropM (m : List (Nm × Value)) (n : Nm) : List (Nm × Value) := m.filter fun p => !(p.1 == n)

section
variable {P : Program} {E : Env} {H : Gh} {L L' : Chunks} {t T K EL : TypeId} {x y z c : Operand} {v u : Value} {b bm o : Nat}

/-- The map's key type is an array of 32 bytes. -/
structure TMap (P : Program) (T K EL e : TypeId) : Prop where
  und : P.underlying T = some (.map K EL)
  key : TBytes P K e 32

theorem run_checkKey {e : TypeId} (hK : TBytes P K e 32) (w : World) (em : Bool) (n : Nm) : ∀ d, (Instr.checkKey em (d + 2) K (ag (encId n))).run P w = .ok () w := by
  intro d
  rw [Instr.checkKey]
  simp only [Sem.run_bind, run_underlying hK.und, Result.andThen_ok, Std.Legacy.Range.forIn_eq_forIn_range', Std.Legacy.Range.size, Nat.sub_zero, Nat.add_sub_cancel, Nat.div_one]
  have hl : ∀ i ∈ List.range' 0 32 1, i < 32 := fun i hi => by simpa using (List.mem_range'_1.1 hi).2
  generalize List.range' 0 32 1 = l at hl ⊢
  induction l with
  | nil => simp
  | cons i l ih =>
    have hi : i < 32 := hl i (by simp)
    have hlen := n.len
    have px : (part e (encId n).toArray (i * 1)).run P w = .ok (u8v (n.bytes.getD i 0)) w := by
      simp [part, isAgg, run_underlying hK.byte, encId, List.getD, List.getElem?_eq_getElem (show i < n.bytes.length by omega)]
    have pc : (Instr.checkKey em (d + 1) e (u8v (n.bytes.getD i 0))).run P w = .ok () w := by
      rw [Instr.checkKey]
      simp [run_underlying hK.byte, u8v]
    simp only [List.forIn_cons, Sem.run_bind, hK.size, px, pc, Result.andThen_ok, Sem.run_pure]
    exact ih fun j hj => hl j (by simp [hj])

theorem run_equal {e : TypeId} (hK : TBytes P K e 32) (w : World) (a b : Nm) : (Op.equal K (ag (encId a)) (ag (encId b))).run P w = .ok (a == b) w := by
  have h := run_equalIn_bytes (P := P) w 9998 K e 32 hK.und hK.byte hK.size a.bytes b.bytes a.len b.len
  have e1 : (a == b) = (a.bytes == b.bytes) := by
    by_cases he : a = b
    · subst he; simp
    · have : a.bytes ≠ b.bytes := fun h => he (Nm.ext' h)
      rw [beq_eq_false_iff_ne.2 he, beq_eq_false_iff_ne.2 this]
  rw [e1]
  exact h

theorem run_findAsking {e : TypeId} (hK : TBytes P K e 32) (w : World) (n : Nm) : ∀ (es : List (Nm × Value × Nat)) (i : Nat),
    (Instr.findAsking K (ag (encId n)) (es.map ment) i).run P w = .ok ((es.findIdx? fun p => p.1 == n).bind fun j => (es[j]?).map fun p => (i + j, p.2.1)) w
  | [], i => by simp [Instr.findAsking]
  | p :: es, i => by
    have ih := run_findAsking hK w n es (i + 1)
    rw [List.map_cons, Instr.findAsking]
    have h1 : (ment p).key = ag (encId p.1) := rfl
    simp only [Sem.run_bind, h1, run_equal hK w n p.1, Result.andThen_ok]
    by_cases h : p.1 = n
    · have e1 : (n == p.1) = true := by simp [h]
      have e2 : (p.1 == n) = true := by simp [h]
      simp [e1, List.findIdx?_cons, e2, ment]
    · have e1 : (n == p.1) = false := by simp; exact fun e => h e.symm
      have e2 : (p.1 == n) = false := by simp [h]
      simp only [e1, Bool.false_eq_true, if_false, ih, List.findIdx?_cons, e2]
      cases hf : es.findIdx? (fun p => p.1 == n) with
      | none => simp
      | some j =>
        simp
        cases es[j]? <;> simp
        omega

theorem run_findKey {e : TypeId} (hK : TBytes P K e 32) (w : World) (n : Nm) (es : List (Nm × Value × Nat)) :
    (Instr.findKey K (ag (encId n)) (es.map ment)).run P w = .ok ((es.findIdx? fun p => p.1 == n).bind fun j => (es[j]?).map fun p => (j, p.2.1)) w := by
  have h := run_findAsking hK w n es 0
  cases es with
  | nil => simp [Instr.findKey, Instr.findNow, run_underlying hK.und]
  | cons p r =>
    simp only [Nat.zero_add] at h
    rw [← h]
    simp [Instr.findKey, Instr.findNow, Instr.sameNow, run_underlying hK.und]

/-! ## Look-ups -/
theorem findIdx_split (n : Nm) : ∀ (es : List (Nm × Value × Nat)) (j : Nat), es.findIdx? (fun p => p.1 == n) = some j →
    ∃ pre v b post, es = pre ++ (n, v, b) :: post ∧ pre.length = j ∧ ∀ p ∈ pre, p.1 ≠ n
  | [], j, h => by simp at h
  | p :: es, j, h => by
    rw [List.findIdx?_cons] at h
    by_cases hp : p.1 = n
    · have : (p.1 == n) = true := by simp [hp]
      rw [this] at h
      simp at h; subst h
      exact ⟨[], p.2.1, p.2.2, es, by simp [← hp], rfl, by simp⟩
    · have : (p.1 == n) = false := by simp [hp]
      rw [this] at h
      simp only [Bool.false_eq_true, if_false, Option.map_eq_some_iff] at h
      obtain ⟨i, hi, rfl⟩ := h
      obtain ⟨pre, v, b, post, rfl, rfl, h3⟩ := findIdx_split n es i hi
      refine ⟨p :: pre, v, b, post, rfl, rfl, fun q hq => ?_⟩
      rcases List.mem_cons.1 hq with rfl | hq
      · exact hp
      · exact h3 q hq

theorem look_split {n : Nm} {pre post : List (Nm × Value × Nat)} {v : Value} {b : Nat} (h : ∀ p ∈ pre, p.1 ≠ n) : look ((pre ++ (n, v, b) :: post).map fun p => (p.1, p.2.1)) n = some v := by
  have h1 : (pre.map fun p => (p.1, p.2.1)).find? (fun p => p.1 == n) = none := by
    rw [List.find?_eq_none]
    intro p hp
    obtain ⟨q, hq, rfl⟩ := List.mem_map.1 hp
    simpa using h q hq
  simp only [look, List.map_append, List.map_cons, List.find?_append, h1, Option.none_or, List.find?_cons, beq_self_eq_true, Option.map_some]
theorem find_ents (n : Nm) (es : List (Nm × Value × Nat)) : ((es.findIdx? fun p => p.1 == n).bind fun j => (es[j]?).map fun p => (j, p.2.1)) =
    (es.findIdx? fun p => p.1 == n).bind fun j => (look (es.map fun p => (p.1, p.2.1)) n).map fun v => (j, v) := by
  cases hf : es.findIdx? (fun p => p.1 == n) with
  | none => rfl
  | some j =>
    obtain ⟨pre, v, b, post, rfl, rfl, h⟩ := findIdx_split n es j hf
    simp only [Option.bind_some, look_split h]
    simp

theorem look_none_iff (n : Nm) (es : List (Nm × Value × Nat)) : (es.findIdx? fun p => p.1 == n) = none ↔ look (es.map fun p => (p.1, p.2.1)) n = none := by
  simp [look, List.findIdx?_eq_none_iff]

theorem run_findKey' {e : TypeId} (hK : TBytes P K e 32) (w : World) (n : Nm) (es : List (Nm × Value × Nat)) :
    ∃ r, (Instr.findKey K (ag (encId n)) (es.map ment)).run P w = .ok r w ∧
      (match look (es.map fun p => (p.1, p.2.1)) n with
       | none => r = none
       | some v => ∃ j, r = some (j, v) ∧ es.findIdx? (fun p => p.1 == n) = some j) := by
  refine ⟨_, run_findKey hK w n es, ?_⟩
  rw [find_ents]
  cases hf : es.findIdx? (fun p => p.1 == n) with
  | none => rw [(look_none_iff n es).1 hf]; rfl
  | some j =>
    cases hl : look (es.map fun p => (p.1, p.2.1)) n with
    | none => rw [(look_none_iff n es).2 hl] at hf; cases hf
    | some v => exact ⟨j, rfl, rfl⟩

def zv (o : Option Value) (z : Value) : Value := o.getD z

theorem run_lookup {e : TypeId} {zz : Value} (hT : TMap P T K EL e) (hz : ∀ w, (zeroValue EL).run P w = .ok zz w) {w : World} {bm : Nat} {ob : Obj} {m : List (Nm × Value)} (hb : w.heap[bm]? = some ob) (hm : MapO ob m) (n : Nm) (ok : Bool) :
    (Instr.lookup T (.map (some bm)) (ag (encId n)) ok).run P w = .ok (if ok then .tuple #[(look m n).getD zz, .bool (look m n).isSome] else (look m n).getD zz) w := by
  obtain ⟨es, c, rfl, rfl, _, _, _⟩ := hm
  have hg : (getObj bm).run P w = .ok (.map (es.map ment).toArray c) w := by
    simp [getObj, Sem.run, hb]
  have hc := run_checkKey hT.key w ((es.map ment).toArray).isEmpty n 9998
  obtain ⟨r, hr, hl⟩ := run_findKey' hT.key w n es
  simp only [Instr.lookup, Sem.run_bind, run_underlying hT.und, Result.andThen_ok, hg, Sem.run_pure, hc, hr]
  cases hlk : look (es.map fun p => (p.1, p.2.1)) n with
  | none =>
    rw [hlk] at hl
    subst hl
    simp only [Sem.run_bind, hz, Result.andThen_ok, Sem.run_pure]
    rfl
  | some v =>
    rw [hlk] at hl
    obtain ⟨j, rfl, _⟩ := hl
    rfl

theorem rd_lookup {e : TypeId} {zz : Value} (hT : TMap P T K EL e) (hz : ∀ w, (zeroValue EL).run P w = .ok zz w) {ob : Obj} {m : List (Nm × Value)} {n : Nm} (hx : ev E x = some (.map (some bm))) (hy : ev E y = some (ag (encId n)))
    (hb : (bm, ob) ∈ L) (hm : MapO ob m) : Rd P E H L (.lookup T x y false) t ((look m n).getD zz) := fun a w N hA hS => by
  have h := run_lookup hT hz (hS.own _ hb).1 hm n false
  simp only [execOp, hA.ev hx, hA.ev hy]
  rw [Sem.run_bind, h]
  rfl
theorem rd_lookupOk {e : TypeId} {zz : Value} (hT : TMap P T K EL e) (hz : ∀ w, (zeroValue EL).run P w = .ok zz w) {ob : Obj} {m : List (Nm × Value)} {n : Nm} (hx : ev E x = some (.map (some bm))) (hy : ev E y = some (ag (encId n)))
    (hb : (bm, ob) ∈ L) (hm : MapO ob m) : Rd P E H L (.lookup T x y true) t (.tuple #[(look m n).getD zz, .bool (look m n).isSome]) := fun a w N hA hS => by
  have h := run_lookup hT hz (hS.own _ hb).1 hm n true
  simp only [execOp, hA.ev hx, hA.ev hy]
  rw [Sem.run_bind, h]
  rfl

/-! ## Stores -/
theorem sameBits_id (n : Nm) (d : Nat) : Instr.sameBits (d + 2) (ag (encId n)) (ag (encId n)) = true := by
  rw [Instr.sameBits]
  simp only [beq_self_eq_true, Bool.true_and, List.all_eq_true]
  intro p hp
  have : p.1 = p.2 ∧ p.1 ∈ (encId n) := by
    have hz : ∀ (l : List Value), ∀ p ∈ l.zip l, p.1 = p.2 ∧ p.1 ∈ l := by
      intro l
      induction l with
      | nil => intro p hp; simp at hp
      | cons x r ih => intro p hp; rcases List.mem_cons.1 (by simpa using hp) with rfl | h
                       · exact ⟨rfl, by simp⟩
                       · exact ⟨(ih p h).1, by simp [(ih p h).2]⟩
    exact hz _ p hp
  obtain ⟨h1, h2⟩ := this
  obtain ⟨b, _, hb⟩ := List.mem_map.1 h2
  obtain ⟨p1, p2⟩ := p
  simp only at h1 hb ⊢
  subst h1; subst hb
  simp [u8v, Instr.sameBits]

theorem modify_mid {α : Type} (f : α → α) : ∀ (pre : List α) (x : α) (post : List α), (pre ++ x :: post).modify pre.length f = pre ++ f x :: post
  | [], x, post => rfl
  | y :: pre, x, post => by
    have := modify_mid f pre x post
    simpa using this
/-- The object behind a store. -/
theorem mapUpdate_run {e : TypeId} (hT : TMap P T K EL e) {w : World} {bm : Nat} {ob : Obj} {m : List (Nm × Value)} (hb : w.heap[bm]? = some ob) (hm : MapO ob m) (n : Nm) (u : Value) :
    ∃ ob', (Instr.mapUpdate T (.map (some bm)) (ag (encId n)) u).run P w = .ok () { w with heap := w.heap.setIfInBounds bm ob' } ∧ MapO ob' (storeM m n u) := by
  obtain ⟨es, c, rfl, rfl, hpw, hlt, hnd⟩ := hm
  have hg : (getObj bm).run P w = .ok (.map (es.map ment).toArray c) w := by simp [getObj, Sem.run, hb]
  have hc := run_checkKey hT.key w false n 9998
  obtain ⟨r, hr, hl⟩ := run_findKey' hT.key w n es
  have hset : ∀ o, (setObj bm o).run P w = .ok () { w with heap := w.heap.setIfInBounds bm o } := fun o => by simp [setObj, Sem.run, hb]
  cases hlk : look (es.map fun p => (p.1, p.2.1)) n with
  | none =>
    rw [hlk] at hl
    subst hl
    refine ⟨.map ((es.map ment).toArray.push (ment (n, u, c))) (c + 1), ?_, ?_⟩
    · simp only [Instr.mapUpdate, Sem.run_bind, run_underlying hT.und, Result.andThen_ok, hg, hc, hr, hset]
      rfl
    · have hno : ∀ p ∈ es, p.1 ≠ n := by
        have := (look_none_iff n es).2 hlk
        rw [List.findIdx?_eq_none_iff] at this
        intro p hp; simpa using this p hp
      refine ⟨es ++ [(n, u, c)], c + 1, by simp, ?_, ?_, ?_, ?_⟩
      · have : (es.map fun p => (p.1, p.2.1)).any (fun p => p.1 == n) = false := by
          rw [List.any_eq_false]; intro p hp
          obtain ⟨q, hq, rfl⟩ := List.mem_map.1 hp
          simpa using hno q hq
        simp only [storeM, this]; simp
      · rw [List.pairwise_append]
        exact ⟨hpw, by simp, fun p hp q hq => by simp at hq; subst hq; exact hlt p hp⟩
      · intro p hp
        rcases List.mem_append.1 hp with hp | hp
        · have := hlt p hp; omega
        · simp at hp; subst hp; simp
      · have : (es.map fun p => (p.1, p.2.1)).any (fun p => p.1 == n) = false := by
          rw [List.any_eq_false]; intro p hp
          obtain ⟨q, hq, rfl⟩ := List.mem_map.1 hp
          simpa using hno q hq
        simp only [storeM, this]
        simp only [Bool.false_eq_true, if_false, List.map_append, List.map_cons, List.map_nil]
        rw [List.nodup_append]
        refine ⟨hnd, by simp, ?_⟩
        intro x hx y hy
        simp at hy; subst hy
        obtain ⟨p, hp, rfl⟩ := List.mem_map.1 hx
        obtain ⟨q, hq, rfl⟩ := List.mem_map.1 hp
        exact hno q hq
  | some v0 =>
    rw [hlk] at hl
    obtain ⟨j, rfl, hj⟩ := hl
    obtain ⟨pre, v, b, post, rfl, rfl, hpre⟩ := findIdx_split n es j hj
    have hpost : ∀ p ∈ post, p.1 ≠ n := by
      intro p hp he
      rw [List.map_map, List.map_append, List.map_cons, List.nodup_append] at hnd
      have := hnd.2.1
      rw [List.nodup_cons] at this
      exact this.1 (List.mem_map.2 ⟨p, hp, by simpa using he⟩)
    refine ⟨.map ((pre ++ (n, u, b) :: post).map ment).toArray c, ?_, ?_⟩
    · have hk : (((((pre ++ (n, v, b) :: post).map ment).toArray)[pre.length]?).map (·.key)).getD (ag (encId n)) = ag (encId n) := by
        simp [ment]
      have hs := sameBits_id n 9998
      have hks : (Instr.keyThatStays (ag (encId n)) (ag (encId n))).run P w = .ok (ag (encId n)) w := by
        rw [Instr.keyThatStays, if_pos hs]; rfl
      have hmod : ((((pre ++ (n, v, b) :: post).map ment).toArray).modify pre.length fun e => { e with key := ag (encId n), val := u }) = ((pre ++ (n, u, b) :: post).map ment).toArray := by
        apply Array.ext'
        rw [Array.toList_modify]
        simp only [List.map_append, List.map_cons]
        have : (pre.map ment).length = pre.length := by simp
        rw [← this, modify_mid]
        rfl
      simp only [Instr.mapUpdate, Sem.run_bind, run_underlying hT.und, Result.andThen_ok, hg, hc, hr, hk, hks, hmod, hset]
    · refine ⟨pre ++ (n, u, b) :: post, c, rfl, ?_, ?_, ?_, ?_⟩
      · have : ((pre ++ (n, v, b) :: post).map fun p => (p.1, p.2.1)).any (fun p => p.1 == n) = true := by
          rw [List.any_eq_true]; exact ⟨(n, v), by simp, by simp⟩
        simp only [storeM, this, if_true]
        simp only [List.map_map, List.map_append, List.map_cons, Function.comp_def, beq_self_eq_true, if_true]
        congr 1
        · apply List.map_congr_left; intro p hp; simp [hpre p hp]
        · congr 1; apply List.map_congr_left; intro p hp; simp [hpost p hp]
      · rw [List.pairwise_append, List.pairwise_cons] at hpw ⊢
        refine ⟨hpw.1, hpw.2.1, fun x hx y hy => ?_⟩
        rcases List.mem_cons.1 hy with rfl | hy
        · exact hpw.2.2 x hx (n, v, b) (by simp)
        · exact hpw.2.2 x hx y (by simp [hy])
      · intro p hp
        rcases List.mem_append.1 hp with hp | hp
        · exact hlt p (by simp [hp])
        · rcases List.mem_cons.1 hp with rfl | hp
          · exact hlt (n, v, b) (by simp)
          · exact hlt p (by simp [hp])
      · have : (storeM ((pre ++ (n, v, b) :: post).map fun p => (p.1, p.2.1)) n u).map (·.1) = ((pre ++ (n, v, b) :: post).map fun p => (p.1, p.2.1)).map (·.1) := by
          have h2 : ((pre ++ (n, v, b) :: post).map fun p => (p.1, p.2.1)).any (fun p => p.1 == n) = true := by
            rw [List.any_eq_true]; exact ⟨(n, v), by simp, by simp⟩
          simp only [storeM, h2, if_true, List.map_map]
          apply List.map_congr_left; intro p hp; simp only [Function.comp_def]; split
          · rename_i h; have h' : p.1 = n := by simpa using h
            exact h'.symm
          · rfl
        rw [this]; exact hnd

theorem sat_setObj {w : World} {ob ob' : Obj} (hS : Sat w H L) (hu : Upd bm ob ob' L L') : Sat { w with heap := w.heap.setIfInBounds bm ob' } H L' := by
  obtain ⟨k, hk, rfl⟩ := hu.spec
  have hb := (hS.own _ (List.mem_of_getElem? hk)).1
  have hlt : bm < w.heap.size := (Array.getElem?_eq_some_iff.1 hb).1
  exact hS.put hk ob' rfl rfl (Nat.le_refl _) rfl (by simp [hlt]) (fun i hi => by simp [Array.getElem?_setIfInBounds_ne (Ne.symm hi)])

theorem nx_mapUpdate {e : TypeId} (hT : TMap P T K EL e) {ob : Obj} {m : List (Nm × Value)} {n : Nm} (hx : ev E x = some (.map (some bm))) (hy : ev E y = some (ag (encId n))) (hz : ev E z = some u)
    (hm : MapO ob m) (hu : ∀ ob', ∃ L', Upd bm ob ob' L L') : Nx P E H L (.mapUpdate T x y z) t (fun v H' L' => ∃ ob', v = undef ∧ H = H' ∧ MapO ob' (storeM m n u) ∧ Upd bm ob ob' L L') :=
  Nx.of_run fun a w N hA hS => by
    obtain ⟨L1, h1⟩ := hu ob
    obtain ⟨k, hk, _⟩ := h1.spec
    obtain ⟨ob', h2, h3⟩ := mapUpdate_run hT (hS.own _ (List.mem_of_getElem? hk)).1 hm n u
    obtain ⟨L', h4⟩ := hu ob'
    refine ⟨.skip, _, H, L', undef, ?_, .inr ⟨rfl, rfl⟩, Gh.le_refl _, sat_setObj hS h4, ob', rfl, rfl, h3, h4⟩
    simp only [execOp, hA.ev hx, hA.ev hy, hA.ev hz, Sem.run_bind, h2, Result.andThen_ok, Sem.run_pure]
end
end Go.VK
