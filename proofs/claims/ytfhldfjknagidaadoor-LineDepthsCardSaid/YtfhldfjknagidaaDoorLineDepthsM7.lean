/-
  From what the arguments read as to how they lie in memory; from what a walk leaves to what a row asks.
-/
import Derived.Test.YtfhldfjknagidaaDoorRows
import Derived.ProofKit
import Derived.LaidMore
import Derived.OpenShut
import Derived.Carry
import Derived.Deep.Slices
import Derived.Stop.Joined
import Derived.Test.YtfhldfjknagidaaDoorLineDepthsM6
set_option linter.unusedSimpArgs false
set_option linter.unusedVariables false
set_option linter.unnecessarySimpa false
set_option linter.all false
namespace Go.Proofs.YtfhldfjknagidaaDoor
open Go.VK Go.Tr Go.ChangeShapes Go.WideShapes Go.RowKit
set_option maxRecDepth 20000
attribute [local irreducible] Go.Tr.sha

section
variable {H : Type} {enc : TypeId × Value → H} {P : Program} {W : World} {base : Nat} {spare : Nat → Bool} {held : Bool} {t e : TypeId}
/-- What is known of the cells of whatever reads as a type. -/
def Dec (enc : TypeId × Value → H) (P : Program) (W : World) (base : Nat) (spare : Nat → Bool) (held : Bool) (t : TypeId) (Q : List Value → Prop) : Prop :=
  ∀ fuel cs x, DataW.trod enc P W base spare held fuel t cs = some x → (∀ n ∈ x.1.weights P t, n ≤ reachBytes) → Q cs
theorem dec_int {k : IntKind} (hT : P.underlying t = some (.int k)) : Dec enc P W base spare held t fun cs => ∃ n, cs = [.int k n] ∧ (Lit.int k n).wf = true := fun _ _ _ h _ => by
  obtain ⟨n, h1, _, h3⟩ := DataW.trod_int hT h
  exact ⟨n, h1, h3⟩
theorem dec_string (hT : P.underlying t = some .string) : Dec enc P W base spare held t fun cs => ∃ s : Bs, cs = [str s] := fun _ _ _ h _ => by
  obtain ⟨s, h1, _⟩ := DataW.trod_string hT h
  refine ⟨s.data.toList, ?_⟩
  rw [h1]
theorem dec_part {fs : Array Field} {f : Field} {i : Nat} {fuel : Nat} {cs : List Value} {x : DataW H × List MemPlace} {Q : List Value → Prop} (hT : P.underlying t = some (.struct fs)) (h : DataW.trod enc P W base spare held fuel t cs = some x) (hw : ∀ n ∈ x.1.weights P t, n ≤ reachBytes) (hf : fs[i]? = some f) {T : TypeId} {o m : Nat} (hf2 : f.type = T ∧ f.offset = o) (hm : P.cellsOf T = m)
    (hD : Dec enc P W base spare held T Q) : Q ((cs.drop o).take m) := by
  obtain ⟨rfl, rfl⟩ := hf2
  subst hm
  obtain ⟨xs, n, _, rfl, _, hl, hx⟩ := DataW.trod_struct hT h
  have hi : i < xs.length := by rw [hl]; exact (Array.getElem?_eq_some_iff.1 hf).1
  refine hD n _ _ ((hx i f hf).trans (List.getElem?_eq_getElem hi)) fun k hk => hw k ?_
  simp only [DataW.weights, hT]
  exact DataW.weights_mem_each (j := i) (t := f.type) (d := xs[i].1) (by rw [List.getElem?_map, Array.getElem?_toList, hf]; rfl) (by rw [List.getElem?_map, List.getElem?_eq_getElem hi]; rfl) k hk
theorem weights_mem_all {d : DataW H} {k : Nat} : ∀ {l : List (DataW H)}, d ∈ l → k ∈ d.weights P e → k ∈ DataW.weightsAll P e l
  | [], h, _ => by cases h
  | x :: r, h, hk => by
    rw [DataW.weightsAll, List.mem_append]
    rcases List.mem_cons.1 h with rfl | h
    · exact .inl hk
    · exact .inr (weights_mem_all h hk)
theorem dec_len {fs : Array Field} {fuel : Nat} {cs : List Value} {x : DataW H × List MemPlace} (hT : P.underlying t = some (.struct fs)) (h : DataW.trod enc P W base spare held fuel t cs = some x) : cs.length = P.cellsOf t := by
  obtain ⟨xs, n, _, _, hl, _⟩ := DataW.trod_struct hT h
  exact hl
theorem list_of_each {α : Type} {p : Nat → α → Prop} : ∀ {n : Nat}, (∀ i, i < n → ∃ x, p i x) → ∃ xs : List α, xs.length = n ∧ ∀ i x, xs[i]? = some x → p i x
  | 0, _ => ⟨[], rfl, fun i x h => by simp at h⟩
  | n + 1, h => by
    obtain ⟨xs, hl, hx⟩ := list_of_each (n := n) fun i hi => h i (Nat.lt_succ_of_lt hi)
    obtain ⟨y, hy⟩ := h n (Nat.lt_succ_self n)
    refine ⟨xs ++ [y], by simp [hl], fun i x hi => ?_⟩
    by_cases hlt : i < xs.length
    · rw [List.getElem?_append_left hlt] at hi; exact hx i x hi
    · rw [List.getElem?_append_right (by omega)] at hi
      have h0 : i - xs.length < 1 := by simpa using (List.getElem?_eq_some_iff.1 hi).1
      have : i = n := by omega
      subst this
      rw [hl, Nat.sub_self] at hi
      cases hi; exact hy
theorem dec_bytes {m : Nat} (hT : P.underlying t = some (.array m e)) (he : P.underlying e = some (.int .u8)) (hc : P.cellsOf e = 1) (hk : P.cellsOf t = m) : Dec enc P W base spare held t fun cs => ∃ b : Bs, b.length = m ∧ cs = b.map u8v := fun _ cs _ h _ => by
  obtain ⟨xs, k, _, _, hl, hn, hx⟩ := DataW.trod_array hT h
  rw [hk] at hl
  obtain ⟨b, hbl, hb⟩ := list_of_each (n := m) (p := fun i (x : UInt8) => cs[i]? = some (u8v x)) fun i hi => by
    have h1 := hx i hi
    rw [List.getElem?_eq_getElem (by omega), hc, Nat.mul_one] at h1
    obtain ⟨n, h2, _, h3⟩ := DataW.trod_int he h1
    have h4 := bounds_u8 h3
    refine ⟨UInt8.ofNat n.toNat, ?_⟩
    have h5 : cs[i]? = some (.int .u8 n) := by
      have h6 := congrArg (fun l : List Value => l[0]?) h2
      simpa [List.getElem?_take, List.getElem?_drop] using h6
    rw [h5]
    simp only [u8v, Option.some.injEq, Value.int.injEq, true_and]
    have : (UInt8.ofNat n.toNat).toNat = n.toNat := by simp; omega
    omega
  refine ⟨b, hbl, ?_⟩
  apply List.ext_getElem?
  intro i
  by_cases hi : i < m
  · rw [hb i _ (List.getElem?_eq_getElem (by omega)), List.getElem?_map, List.getElem?_eq_getElem (by omega)]; rfl
  · rw [List.getElem?_eq_none (by omega), List.getElem?_eq_none (by simp; omega)]
theorem dec_slice {α : Type} {f : α → List Value} {k : Nat} {Q : α → Prop} (hT : P.underlying t = some (.slice e)) (hk : P.cellsOf e = k) (hk0 : 0 < k) (hby : 0 < P.bytesOf e)
    (hD : Dec enc P W base spare held e fun cs => ∃ a, cs = f a ∧ Q a) : Dec enc P W base spare held t fun cs => ∃ v xs, cs = [v] ∧ SlT f k (ghostOf W) [] v xs ∧ ∀ a ∈ xs, Q a := fun fuel cs x h hw => by
  rcases Go.Deep.open_slice hT h with ⟨rfl, _⟩ | ⟨a, len, cap, m, n, D, Pl, rfl, _, hl, hc, hm, rfl, hx⟩
  · exact ⟨_, [], rfl, SlT.nil, fun a ha => by cases ha⟩
  have hlm : len ≤ m := by rw [hm]; split <;> omega
  simp only [DataW.weights, hT, List.length_map, List.length_range] at hw
  have hmax : len < 4611686018427387904 := by
    have h1 := hw _ List.mem_cons_self
    have h2 : len * 1 ≤ (len + (m - len)) * P.bytesOf e := Nat.mul_le_mul (Nat.le_add_right _ _) hby
    have h3 : reachBytes = 140737488351232 := rfl
    omega
  obtain ⟨xs, hxl, hxs⟩ := list_of_each (n := len) (p := fun i (y : α) => W.cells? base (a.add (i * k)) k = some (f y) ∧ Q y) fun i hi => by
    obtain ⟨cs', h1, h2⟩ := hx i (by omega)
    obtain ⟨y, rfl, hy⟩ := hD _ _ _ h2 fun k hk => hw k (List.mem_cons_of_mem _ (List.mem_append_left _ (weights_mem_all (List.mem_map.2 ⟨i, List.mem_range.2 hi, rfl⟩) hk)))
    rw [hk] at h1
    exact ⟨y, h1, hy⟩
  have hq : ∀ a ∈ xs, Q a := fun y hy => by
    obtain ⟨i, hi⟩ := List.getElem?_of_mem hy
    exact (hxs i y hi).2
  refine ⟨_, xs, rfl, ?_, hq⟩
  rcases Nat.eq_zero_or_pos len with h0 | h0
  · subst h0
    have : xs = [] := List.length_eq_zero_iff.1 hxl
    subst this
    exact ⟨some a, 0, 0, cap, [], rfl, Nat.zero_le _, hmax, (fun h => by cases h), fun h => absurd rfl h, fun j x h => by simp at h⟩
  · obtain ⟨y0, hy0⟩ : ∃ y, xs[0]? = some y := ⟨xs[0]'(by omega), List.getElem?_eq_getElem (by omega)⟩
    obtain ⟨_, h2, h3⟩ := World.cells?_some (hxs 0 y0 hy0).1
    have h4 := h3 0 hk0
    rw [Nat.zero_mul, show (a.add 0).add 0 = a from rfl, List.getElem?_eq_getElem (by omega)] at h4
    obtain ⟨b, off, spot⟩ := a
    simp only [World.cell?] at h4
    cases hb : W.heap[b]? with
    | none => rw [hb] at h4; cases h4
    | some o =>
      rw [hb] at h4
      cases o with
      | cells c T z =>
        have hsp : spot = none := by
          cases spot with
          | none => rfl
          | some s => simp at h4
        subst hsp
        refine ⟨some ⟨b, off, none⟩, b, off, cap, c.toList, by rw [hxl], by omega, by omega, (fun h => by cases h), fun _ => ⟨rfl, T, z, .inl (by simpa [ghostOf] using hb)⟩, fun j y hj i v hv => ?_⟩
        obtain ⟨_, h5, h6⟩ := World.cells?_some (hxs j y hj).1
        have hik : i < k := by rw [← h5]; exact (List.getElem?_eq_some_iff.1 hv).1
        have h7 := h6 i hik
        rw [hv, Go.Deep.add_add] at h7
        have e1 : (⟨b, off, none⟩ : Addr).add (j * k + i) = ⟨b, off + (j * k + i), none⟩ := by
          unfold Addr.add
          split
          · rename_i hz; rw [hz]; rfl
          · rfl
        rw [e1] at h7
        simp only [World.cell?, hb] at h7
        simp only [Option.isSome_none, Bool.false_eq_true, if_false] at h7
        rw [Array.getElem?_toList, ← h7]
        congr 1; omega
      | _ => cases h4

/-! ## Up -/
theorem trodAll_up (hl : laidOutB P = true) {W W' : World} (hb : Below W.heap.size W W') : ∀ (ts : List TypeId) (vs : List Value) (ds : List (DataW H)) (ps : List MemPlace), (∀ t ∈ ts, P.readableRec t = true ∧ t < P.types.size) →
    DataW.TrodAll enc P W 0 (fun _ => true) true ts vs ds ps → (∀ x ∈ ps, x.block < W.heap.size) → DataW.TrodAll enc P W' 0 (fun b => decide (b < W.heap.size)) true ts vs ds ps
  | [], [], [], _, _, h, _ => h
  | t :: ts, v :: vs, d :: ds, ps, hr, h, hp => by
    obtain ⟨p, q, h1, h2, rfl⟩ := h
    exact ⟨p, q, Below.trod hl (hr t List.mem_cons_self).1 (hr t List.mem_cons_self).2 h1 hb (fun x hx => hp x (List.mem_append_left _ hx)),
      trodAll_up hl hb ts vs ds q (fun t ht => hr t (List.mem_cons_of_mem _ ht)) h2 (fun x hx => hp x (List.mem_append_right _ hx)), rfl⟩
  | [], _ :: _, _, _, _, h, _ => h.elim
  | [], [], _ :: _, _, _, h, _ => h.elim
  | _ :: _, [], _, _, _, h, _ => h.elim
  | _ :: _, _ :: _, [], _, _, h, _ => h.elim
theorem below_of_sat {W w' : World} {H' : Gh} {L' : Chunks} (hle : ghostOf W ≤ H') (h : Sat w' H' L') : Below W.heap.size W w' := by
  have hk : ∀ k, k < W.heap.size → w'.heap[k]? = W.heap[k]? := fun k hk => by
    have h1 := hle.imm k W.heap[k] (Array.getElem?_eq_getElem hk)
    rw [h.imm _ _ h1, Array.getElem?_eq_getElem hk]
  refine ⟨h.os.trans hle.os, h.tape.trans hle.tape, h.output.trans hle.output, ?_, hk⟩
  rcases Nat.eq_zero_or_pos W.heap.size with h0 | h0
  · omega
  · have h1 := (hk (W.heap.size - 1) (by omega)).trans (Array.getElem?_eq_getElem (by omega))
    have h2 : W.heap.size - 1 < w'.heap.size := (Array.getElem?_eq_some_iff.1 h1).1
    omega
theorem kept_of_below {W W' : World} (hb : Below W.heap.size W W') (may : MemPlace → Prop) : W.keptBut W' may := by
  refine ⟨hb.os, hb.output, fun i hi => ?_⟩
  rw [hb.block i hi]
  cases W.heap[i]? with
  | none => rfl
  | some o =>
    cases o with
    | cells c T z => exact ⟨rfl, rfl, rfl, fun _ _ => rfl⟩
    | map es c => exact .inr ⟨rfl, rfl⟩
    | _ => rfl
/-- A law's row: the call answers true, and nothing that was there is touched. -/
theorem post_true {f : Func} {s : ChangeSpec} {apart fresh : Bool} {W W' : World} {args : Array Value} {ds : List (DataW H)} {before : List MemPlace} {tb : TypeId} (hl : laidOutB P = true) (hr : ∀ t ∈ f.params.toList, P.readableRec t = true ∧ t < P.types.size)
    (hrt : f.resultTypes = #[tb]) (htb : P.underlying tb = some .bool) (hv : s.vars = []) (hs : s.fn H (ds ++ []) = { results := [.lit (.bool true)], args := ds })
    (hW : DataW.Whole enc P f.params.toList s.vars apart W args.toList ds [] before) (hb : Below W.heap.size W W') : s.post enc P f apart fresh false false W args (.bool true) W' := by
  have hlt := hW.lt
  have hW0 := hW
  obtain ⟨p, q, hA, hV, rfl, _, _⟩ := hW
  refine ⟨ds, [], _, [], p, [], hW0, ?_, ?_, ?_, kept_of_below hb _, fun h => by cases h⟩
  · rw [hs, hrt]
    exact trodAll_mk1 (shut_bool htb _)
  · rw [hs]
    exact trodAll_up hl hb _ _ _ _ hr hA fun x hx => hlt x (List.mem_append_left _ hx)
  · rw [hs, hv]
    rfl
end

/-! ## The data of this program -/
section
variable {H : Type} {enc : TypeId × Value → H} {W : World} {base : Nat} {spare : Nat → Bool} {held : Bool}
theorem c3 : Tryd.prog.cellsOf 3 = 1 := by kernel_rfl
theorem c5 : Tryd.prog.cellsOf 5 = 1 := by kernel_rfl
theorem c9 : Tryd.prog.cellsOf 9 = 1 := by kernel_rfl
theorem cId : Tryd.prog.cellsOf 34 = 32 := by kernel_rfl
theorem cIds : Tryd.prog.cellsOf 29 = 1 := by kernel_rfl
theorem cDraft : Tryd.prog.cellsOf 36 = 35 := by kernel_rfl
theorem cOp : Tryd.prog.cellsOf 38 = 38 := by kernel_rfl
theorem cMake : Tryd.prog.cellsOf 78 = 78 := by kernel_rfl
theorem bId : 0 < Tryd.prog.bytesOf 34 := Nat.le_of_ble_eq_true (by kernel_rfl)
theorem bInt : 0 < Tryd.prog.bytesOf 3 := Nat.le_of_ble_eq_true (by kernel_rfl)
theorem bMake : 0 < Tryd.prog.bytesOf 78 := Nat.le_of_ble_eq_true (by kernel_rfl)
theorem laidOut : laidOutB Tryd.prog = true := by kernel_rfl

theorem dec_i64 : Dec enc Tryd.prog W base spare held 3 fun cs => ∃ n, cs = [i64 n] ∧ -9223372036854775808 ≤ n ∧ n < 9223372036854775808 := fun f cs x h hw => by
  obtain ⟨n, rfl, h2⟩ := dec_int Tryd.underlying3 f cs x h hw
  have := bounds_i64 h2
  exact ⟨n, rfl, by omega, by omega⟩
theorem dec_name : Dec enc Tryd.prog W base spare held 34 fun cs => ∃ n : Nm, cs = encId n ∧ True := fun f cs x h hw => by
  obtain ⟨b, h1, rfl⟩ := dec_bytes Tryd.underlying34 Tryd.underlying5 c5 cId f cs x h hw
  exact ⟨⟨b, h1⟩, rfl, trivial⟩
theorem dec_names : Dec enc Tryd.prog W base spare held 29 fun cs => ∃ v xs, cs = [v] ∧ Ids (ghostOf W) [] v xs ∧ ∀ a ∈ xs, True := dec_slice Tryd.underlying29 cId (by decide) bId dec_name
theorem chop {α : Type} (l : List α) (o n : Nat) : l.drop o = (l.drop o).take n ++ l.drop (o + n) := by
  rw [← List.drop_drop, List.take_append_drop]
theorem dec_draft : Dec enc Tryd.prog W base spare held 36 fun cs => ∃ d : Draft, cs = encDraft d ∧ d.kind < 9223372036854775808 := fun f cs x h hw => by
  have hT := Tryd.underlying36
  have hl := dec_len hT h
  rw [cDraft] at hl
  obtain ⟨k, h0, hk⟩ := dec_part hT h hw (i := 0) (o := 0) rfl ⟨rfl, rfl⟩ c3 dec_i64
  obtain ⟨s, h1⟩ := dec_part hT h hw (i := 1) (o := 0 + 1) rfl ⟨rfl, rfl⟩ c9 (dec_string Tryd.underlying9)
  obtain ⟨u, h2⟩ := dec_part hT h hw (i := 2) (o := 0 + 1 + 1) rfl ⟨rfl, rfl⟩ c9 (dec_string Tryd.underlying9)
  obtain ⟨n, h3, _⟩ := dec_part hT h hw (i := 3) (o := 0 + 1 + 1 + 1) rfl ⟨rfl, rfl⟩ cId dec_name
  refine ⟨⟨k, s, u, n⟩, ?_, hk.2⟩
  have e : cs = cs.drop 0 := rfl
  rw [e, chop cs 0 1, h0, chop cs (0 + 1) 1, h1, chop cs (0 + 1 + 1) 1, h2, chop cs (0 + 1 + 1 + 1) 32, h3, List.drop_eq_nil_of_le (by omega)]
  simp [encDraft]
theorem dec_op : Dec enc Tryd.prog W base spare held 38 fun cs => ∃ (o : POp) (pv : Value), cs = encOp o pv ∧ Ids (ghostOf W) [] pv o.preds ∧ RngO o := fun f cs x h hw => by
  have hT := Tryd.underlying38
  have hl := dec_len hT h
  rw [cOp] at hl
  obtain ⟨d, h0, hk⟩ := dec_part hT h hw (i := 0) (o := 0) rfl ⟨rfl, rfl⟩ cDraft dec_draft
  obtain ⟨a, h1, ha⟩ := dec_part hT h hw (i := 1) (o := 0 + 35) rfl ⟨rfl, rfl⟩ c3 dec_i64
  obtain ⟨p, h2, hp⟩ := dec_part hT h hw (i := 2) (o := 0 + 35 + 1) rfl ⟨rfl, rfl⟩ c3 dec_i64
  obtain ⟨v, xs, h3, hv, _⟩ := dec_part hT h hw (i := 3) (o := 0 + 35 + 1 + 1) rfl ⟨rfl, rfl⟩ cIds dec_names
  refine ⟨⟨d, a, p, xs⟩, v, ?_, hv, hk, ha.2, hp.2⟩
  have e : cs = cs.drop 0 := rfl
  rw [e, chop cs 0 35, h0, chop cs (0 + 35) 1, h1, chop cs (0 + 35 + 1) 1, h2, chop cs (0 + 35 + 1 + 1) 1, h3, List.drop_eq_nil_of_le (by omega)]
  simp [encOp]
theorem dec_make : Dec enc Tryd.prog W base spare held 78 fun cs => ∃ p : Tr.Make × Value, cs = encMakeV p ∧ Ids (ghostOf W) [] p.2 p.1.op.preds ∧ RngM p.1 := fun f cs x h hw => by
  have hT := Tryd.underlying78
  have hl := dec_len hT h
  rw [cMake] at hl
  obtain ⟨k, h0, hk⟩ := dec_part hT h hw (i := 0) (o := 0) rfl ⟨rfl, rfl⟩ c3 dec_i64
  obtain ⟨a, h1, ha⟩ := dec_part hT h hw (i := 1) (o := 0 + 1) rfl ⟨rfl, rfl⟩ c3 dec_i64
  obtain ⟨d, h2, hd⟩ := dec_part hT h hw (i := 2) (o := 0 + 1 + 1) rfl ⟨rfl, rfl⟩ cDraft dec_draft
  obtain ⟨i, h3, _⟩ := dec_part hT h hw (i := 3) (o := 0 + 1 + 1 + 35) rfl ⟨rfl, rfl⟩ c3 dec_i64
  obtain ⟨j, h4, _⟩ := dec_part hT h hw (i := 4) (o := 0 + 1 + 1 + 35 + 1) rfl ⟨rfl, rfl⟩ c3 dec_i64
  obtain ⟨z, h5, _⟩ := dec_part hT h hw (i := 5) (o := 0 + 1 + 1 + 35 + 1 + 1) rfl ⟨rfl, rfl⟩ c3 dec_i64
  obtain ⟨o, pv, h6, hv, ho⟩ := dec_part hT h hw (i := 6) (o := 0 + 1 + 1 + 35 + 1 + 1 + 1) rfl ⟨rfl, rfl⟩ cOp dec_op
  refine ⟨(⟨k, a, d, i, j, z, o⟩, pv), ?_, hv, hd, ha.2, ho⟩
  have e : cs = cs.drop 0 := rfl
  rw [e, chop cs 0 1, h0, chop cs (0 + 1) 1, h1, chop cs (0 + 1 + 1) 35, h2, chop cs (0 + 1 + 1 + 35) 1, h3, chop cs (0 + 1 + 1 + 35 + 1) 1, h4, chop cs (0 + 1 + 1 + 35 + 1 + 1) 1, h5, chop cs (0 + 1 + 1 + 35 + 1 + 1 + 1) 38, h6, List.drop_eq_nil_of_le (by omega)]
  simp [encMakeV]
theorem dec_makes : Dec enc Tryd.prog W base spare held 22 fun cs => ∃ v xs, cs = [v] ∧ SlT encMakeV 78 (ghostOf W) [] v xs ∧ ∀ p ∈ xs, Ids (ghostOf W) [] p.2 p.1.op.preds ∧ RngM p.1 := dec_slice Tryd.underlying22 cMake (by decide) bMake dec_make
theorem dec_ints : Dec enc Tryd.prog W base spare held 23 fun cs => ∃ v xs, cs = [v] ∧ Ints (ghostOf W) [] v xs ∧ ∀ n ∈ xs, -9223372036854775808 ≤ n ∧ n < 9223372036854775808 := dec_slice Tryd.underlying23 c3 (by decide) bInt dec_i64
/-- An argument that is a slice. -/
theorem arg_slice {P : Program} {t e : TypeId} {v : Value} {d : DataW H} {ps : List MemPlace} {b : Nat} {Q : List Value → Prop} (hT : P.underlying t = some (.slice e)) (hv : Value.okWide P W .any b t v) (h : DataW.Trod enc P W base spare held t v d ps)
    (hw : ∀ n ∈ d.weights P t, n ≤ reachBytes) (hD : Dec enc P W base spare held t Q) : Q [v] := by
  obtain ⟨a, len, cap, rfl⟩ := okWide_slice hT hv
  obtain ⟨f, hf⟩ := h
  exact hD f _ _ hf hw

/-- An argument that is an array, or a struct. -/
theorem arg_array {P : Program} {t e : TypeId} {m : Nat} {v : Value} {d : DataW H} {ps : List MemPlace} {b : Nat} {Q : List Value → Prop} (hT : P.underlying t = some (.array m e)) (hv : Value.okWide P W .any b t v) (h : DataW.Trod enc P W base spare held t v d ps)
    (hw : ∀ n ∈ d.weights P t, n ≤ reachBytes) (hD : Dec enc P W base spare held t Q) : ∃ cs, v = .agg cs ∧ Q cs.toList := by
  simp only [Value.okWide, hT] at hv
  obtain ⟨cs, rfl, _⟩ := hv
  obtain ⟨f, hf⟩ := h
  exact ⟨cs, rfl, hD f _ _ hf hw⟩
theorem arg_struct {P : Program} {t : TypeId} {fs : Array Field} {v : Value} {d : DataW H} {ps : List MemPlace} {b : Nat} {Q : List Value → Prop} (hT : P.underlying t = some (.struct fs)) (hv : Value.okWide P W .any b t v) (h : DataW.Trod enc P W base spare held t v d ps)
    (hw : ∀ n ∈ d.weights P t, n ≤ reachBytes) (hD : Dec enc P W base spare held t Q) : ∃ cs, v = .agg cs ∧ Q cs.toList := by
  simp only [Value.okWide, hT] at hv
  obtain ⟨cs, rfl, _⟩ := hv
  obtain ⟨f, hf⟩ := h
  exact ⟨cs, rfl, hD f _ _ hf hw⟩
/-- 32 bytes. -/
theorem dec_b32 {P : Program} {t e : TypeId} (hT : P.underlying t = some (.array 32 e)) (he : P.underlying e = some (.int .u8)) (hc : P.cellsOf e = 1) (hk : P.cellsOf t = 32) : Dec enc P W base spare held t fun cs => ∃ n : Nm, cs = encId n := fun f cs x h hw => by
  obtain ⟨b, h1, rfl⟩ := dec_bytes hT he hc hk f cs x h hw
  exact ⟨⟨b, h1⟩, rfl⟩

/-! ## The digest's tables -/
theorem arr_read {H : Type} {enc : TypeId × Value → H} {P : Program} {W : World} {base : Nat} {spare : Nat → Bool} {held : Bool} {t e : TypeId} {m fuel : Nat} {cs : List Value} {p : List MemPlace} (ns : List Int) (hT : P.underlying t = some (.array m e)) (he : P.underlying e = some (.int .u32)) (hc : P.cellsOf e = 1) (hk : P.cellsOf t = m)
    (h : DataW.trod enc P W base spare held fuel t cs = some (.agg (ns.map fun n => .lit (.int .u32 n)), p)) : cs = ns.map fun n => .int .u32 n := by
  obtain ⟨xs, k, _, h1, hl, hn, hx⟩ := DataW.trod_array hT h
  rw [hk] at hl
  have h2 : ns.map (fun n => (.lit (.int .u32 n) : DataW H)) = xs.map (·.1) := by
    have := congrArg Prod.fst h1
    simpa using this
  have hnl : ns.length = m := by have := congrArg List.length h2; simpa [hn] using this
  apply List.ext_getElem?
  intro i
  by_cases hi : i < m
  · have h3 := hx i hi
    rw [List.getElem?_eq_getElem (by omega), hc, Nat.mul_one] at h3
    obtain ⟨n, h4, h5, _⟩ := DataW.trod_int he h3
    have h6 : cs[i]? = some (.int .u32 n) := by
      have h7 := congrArg (fun l : List Value => l[0]?) h4
      simpa [List.getElem?_take, List.getElem?_drop] using h7
    have h8 := congrArg (fun l : List (DataW H) => l[i]?) h2
    simp only [List.getElem?_map, List.getElem?_eq_getElem (show i < xs.length by omega), List.getElem?_eq_getElem (show i < ns.length by omega), Option.map_some, h5] at h8
    have h9 : ns[i] = n := by simpa using h8
    rw [h6, List.getElem?_map, List.getElem?_eq_getElem (by omega), Option.map_some, h9]
  · rw [List.getElem?_eq_none (by omega), List.getElem?_eq_none (by simp; omega)]
theorem gStart : Tryd.prog.globalNamed "tribunal/sha.start" = some 0 := by kernel_rfl
theorem gRound : Tryd.prog.globalNamed "tribunal/sha.round" = some 2 := by kernel_rfl
theorem tStart : (Tryd.prog.globals[0]?).map (·.type) = some 151 := by kernel_rfl
theorem tRound : (Tryd.prog.globals[2]?).map (·.type) = some 167 := by kernel_rfl
theorem c32 : Tryd.prog.cellsOf 135 = 1 := by kernel_rfl
theorem cStart : Tryd.prog.cellsOf 151 = 8 := by kernel_rfl
theorem cRound : Tryd.prog.cellsOf 167 = 64 := by kernel_rfl
theorem dStart : (Rows.laid_tribunal_sha_start : DataW Unit) = .agg ((startH.map fun x => (x.toNat : Int)).map fun n => .lit (.int .u32 n)) := by kernel_rfl
theorem dRound : (Rows.laid_tribunal_sha_round : DataW Unit) = .agg ((roundK.map fun x => (x.toNat : Int)).map fun n => .lit (.int .u32 n)) := by kernel_rfl
theorem var_block {P : Program} {n : String} {g : Nat} {cs : Array Value} (hg : P.globalNamed n = some g) (h : W.var? P n = some cs) : ∃ T z, W.heap[g]? = some (.cells cs T z) := by
  simp only [World.var?, hg, Option.bind_some] at h
  split at h
  · rename_i c T z hb
    cases h
    exact ⟨T, z, hb⟩
  · cases h
theorem glob_of_laid (h : laidMetH Tryd.prog [("tribunal/sha.start", Rows.laid_tribunal_sha_start), ("tribunal/sha.round", Rows.laid_tribunal_sha_round)] W) : Glob (ghostOf W) := by
  rw [MakeChecks.laidMetH_plain _ _ _ (by kernel_rfl)] at h
  obtain ⟨ps, ⟨g0, t0, cs0, f0, p0, q0, hg0, ht0, hv0, hd0, ⟨g1, t1, cs1, f1, p1, q1, hg1, ht1, hv1, hd1, _, _⟩, _⟩, _, _⟩ := h
  obtain rfl := Option.some.inj (gStart.symm.trans hg0)
  obtain rfl := Option.some.inj (gRound.symm.trans hg1)
  obtain rfl := Option.some.inj (tStart.symm.trans ht0)
  obtain rfl := Option.some.inj (tRound.symm.trans ht1)
  rw [dStart] at hd0
  rw [dRound] at hd1
  have e0 := arr_read _ Tryd.underlying151 Tryd.underlying135 c32 cStart hd0
  have e1 := arr_read _ Tryd.underlying167 Tryd.underlying135 c32 cRound hd1
  obtain ⟨T0, z0, hb0⟩ := var_block hg0 hv0
  obtain ⟨T1, z1, hb1⟩ := var_block hg1 hv1
  refine ⟨⟨T0, z0, ?_⟩, T1, z1, ?_⟩
  · show W.heap[0]? = _
    rw [hb0]
    have : cs0 = (startH.map w32).toArray := by apply Array.ext'; rw [e0]; simp
    rw [this]
  · show W.heap[2]? = _
    rw [hb1]
    have : cs1 = (roundK.map w32).toArray := by apply Array.ext'; rw [e1]; simp
    rw [this]
/-- The door's own heap meets the condition. -/
theorem door_met (os : Os) (args : Array Value) : laidMetH Tryd.prog [("tribunal/sha.start", Rows.laid_tribunal_sha_start), ("tribunal/sha.round", Rows.laid_tribunal_sha_round)] ((World.doorLaid Tryd.prog 400 os).forCall (fun _ _ => 0) ⟨#[], args, []⟩).memory :=
  laidMetH_of_parts3 (fuel := 8) (laidMet_of_run' 8 (by kernel_rfl) (by kernel_rfl)) (by kernel_rfl) (by kernel_rfl)
end
end Go.Proofs.YtfhldfjknagidaaDoor
