/-
  The data of the program as plain data, and how it lies in memory.
-/
import Derived.Test.YtfhldfjknagidaaDoorVKf
import Derived.Test.YtfhldfjknagidaaDoorVKp
set_option linter.unusedSimpArgs false
set_option linter.unusedVariables false
namespace Go.VK
open Go.Tr

def encId (d : Nm) : List Value := d.bytes.map u8v
@[simp] theorem encId_length (d : Nm) : (encId d).length = 32 := by simp [encId, d.len]
theorem encId_ones (d : Nm) : oneCells (encId d) := oneCells_bytes _
abbrev str (l : Bs) : Value := .string ⟨l.toArray⟩
abbrev i64 (n : Int) : Value := .int .i64 n
def encDraft (d : Draft) : List Value := [i64 d.kind, str d.key, str d.value] ++ encId d.ref
@[simp] theorem encDraft_length (d : Draft) : (encDraft d).length = 35 := by simp [encDraft]
def encOp (o : POp) (pv : Value) : List Value := encDraft o.draft ++ [i64 o.author, i64 o.depth, pv]
@[simp] theorem encOp_length (o : POp) (pv : Value) : (encOp o pv).length = 38 := by simp [encOp]
theorem encDraft_ones (d : Draft) : oneCells (encDraft d) := oneCells_append (oneCells_of_all rfl) (encId_ones _)
theorem encOp_ones (o : POp) {pv : Value} (h : pv.oneCell' = true) : oneCells (encOp o pv) :=
  oneCells_append (encDraft_ones _) (oneCells_cons rfl (oneCells_cons rfl (oneCells_cons h oneCells_nil)))
theorem encOp_seg_draft (o : POp) (pv : Value) : Seg (encOp o pv) 0 (encDraft o.draft) := Seg.head
theorem encDraft_seg_ref (d : Draft) : Seg (encDraft d) 3 (encId d.ref) := Seg.skip (p := [i64 d.kind, str d.key, str d.value]) (Seg.all _) rfl
theorem encOp_seg_ref (o : POp) (pv : Value) : Seg (encOp o pv) 3 (encId o.draft.ref) := Seg.append_left (encDraft_seg_ref _)
@[simp] theorem encDraft_0 (d : Draft) : (encDraft d)[0]? = some (i64 d.kind) := rfl
@[simp] theorem encDraft_1 (d : Draft) : (encDraft d)[1]? = some (str d.key) := rfl
@[simp] theorem encDraft_2 (d : Draft) : (encDraft d)[2]? = some (str d.value) := rfl
@[simp] theorem encOp_0 (o : POp) (pv : Value) : (encOp o pv)[0]? = some (i64 o.draft.kind) := rfl
@[simp] theorem encOp_1 (o : POp) (pv : Value) : (encOp o pv)[1]? = some (str o.draft.key) := rfl
@[simp] theorem encOp_2 (o : POp) (pv : Value) : (encOp o pv)[2]? = some (str o.draft.value) := rfl
theorem encOp_at (o : POp) (pv : Value) (j : Nat) : (encOp o pv)[35 + j]? = [i64 o.author, i64 o.depth, pv][j]? := by
  rw [encOp, List.getElem?_append_right (by simp)]; simp
@[simp] theorem encOp_35 (o : POp) (pv : Value) : (encOp o pv)[35]? = some (i64 o.author) := encOp_at o pv 0
@[simp] theorem encOp_36 (o : POp) (pv : Value) : (encOp o pv)[36]? = some (i64 o.depth) := encOp_at o pv 1
@[simp] theorem encOp_37 (o : POp) (pv : Value) : (encOp o pv)[37]? = some pv := encOp_at o pv 2
theorem encOp_set_preds (o : POp) (pv pv' : Value) (ps : List Nm) : wr (encOp o pv) 37 [pv'] = encOp { o with preds := ps } pv' := by
  have h1 : (encOp o pv).take 37 = encDraft o.draft ++ [i64 o.author, i64 o.depth] := by
    rw [encOp, List.take_append, List.take_of_length_le (by simp)]; simp
  have h2 : (encOp o pv).drop (37 + [pv'].length) = [] := List.drop_eq_nil_of_le (by simp)
  rw [wr, h1, h2]
  simp [encOp]
theorem encOp_set_depth (o : POp) (pv : Value) (d : Int) : wr (encOp o pv) 36 [i64 d] = encOp { o with depth := d } pv := by
  have h1 : (encOp o pv).take 36 = encDraft o.draft ++ [i64 o.author] := by
    rw [encOp, List.take_append, List.take_of_length_le (by simp)]; simp
  have h2 : (encOp o pv).drop (36 + [i64 d].length) = [pv] := by
    rw [encOp, List.drop_append, List.drop_eq_nil_of_le (by simp)]; simp
  rw [wr, h1, h2]
  simp [encOp]

/-- What a slice's header says of the list xs of elements of k cells. -/
def SlT {α : Type} (enc : α → List Value) (k : Nat) (H : Gh) (L : Chunks) (v : Value) (xs : List α) : Prop :=
  ∃ a b off cap l, v = .slice a xs.length cap ∧ xs.length ≤ cap ∧ xs.length < 4611686018427387904 ∧ (a = none → xs = [] ∧ cap = 0) ∧ (xs ≠ [] → a = some ⟨b, off, none⟩ ∧ Cells H L b l) ∧
    (∀ j x, xs[j]? = some x → Seg l (off + j * k) (enc x))
theorem SlT.mono {α : Type} {enc : α → List Value} {k : Nat} {H H' : Gh} {L L' : Chunks} {v : Value} {xs : List α} (h : SlT enc k H L v xs) (hH : H ≤ H') (hL : ∀ x ∈ L, x ∈ L') :
    SlT enc k H' L' v xs := by
  obtain ⟨a, b, off, cap, l, h1, h2, h3, h4, h5, h6⟩ := h
  exact ⟨a, b, off, cap, l, h1, h2, h3, h4, fun hx => ⟨(h5 hx).1, (h5 hx).2.mono hH hL⟩, h6⟩
theorem SlT.up {α : Type} {enc : α → List Value} {k : Nat} {H H' : Gh} {v : Value} {xs : List α} (h : SlT enc k H [] v xs) (hH : H ≤ H') : SlT enc k H' [] v xs := h.mono hH fun _ hx => hx
theorem SlT.any {α : Type} {enc : α → List Value} {k : Nat} {H : Gh} {L : Chunks} {v : Value} {xs : List α} (h : SlT enc k H [] v xs) : SlT enc k H L v xs := h.mono (Gh.le_refl _) fun _ hx => by cases hx
theorem SlT.one {α : Type} {enc : α → List Value} {k : Nat} {H : Gh} {L : Chunks} {v : Value} {xs : List α} (h : SlT enc k H L v xs) : v.oneCell' = true := by
  obtain ⟨a, b, off, cap, l, rfl, _⟩ := h; rfl
theorem SlT.nil {α : Type} {enc : α → List Value} {k : Nat} {H : Gh} {L : Chunks} : SlT enc k H L (.slice none 0 0) [] :=
  ⟨none, 0, 0, 0, [], rfl, Nat.le_refl _, by simp, fun _ => ⟨rfl, rfl⟩, fun h => absurd rfl h, fun j x h => by simp at h⟩
abbrev Ids := SlT encId 32
abbrev Byt := SlT (fun b : UInt8 => [u8v b]) 1
abbrev Strs := SlT (fun s : Bs => [str s]) 1
abbrev Ints := SlT (fun n : Int => [i64 n]) 1
def encOpV (p : POp × Value) : List Value := encOp p.1 p.2
@[simp] theorem encOpV_length (p : POp × Value) : (encOpV p).length = 38 := encOp_length _ _
def OpsAt (H : Gh) (L : Chunks) (v : Value) (xs : List (POp × Value)) : Prop := SlT encOpV 38 H L v xs ∧ ∀ p ∈ xs, Ids H [] p.2 p.1.preds

/-! ## Strings as lists of bytes -/
section
variable {P : Program} {E : Env} {H : Gh} {L : Chunks} {t T T' : TypeId} {x y c : Operand} {l l' : Bs}
theorem size_str (l : Bs) : (ByteArray.mk l.toArray).size = l.length := rfl
theorem rd_lenL (hT : P.underlying T = some .string) (hx : ev E x = some (str l)) : Rd P E H L (.call ⟨.builtin .len, #[x], #[T]⟩) t (i64 l.length) := rd_lenStr hT hx
theorem rd_strAddL (hx : ev E x = some (str l)) (hy : ev E y = some (str l')) (hb : l.length + l'.length < 9223372036854775808) : Rd P E H L (.binOp .add T x y T') t (str (l ++ l')) := by
  have h := rd_strAdd (P := P) (H := H) (L := L) (t := t) (T := T) (T' := T') hx hy hb
  have e : (ByteArray.mk l.toArray ++ ByteArray.mk l'.toArray : ByteArray) = ⟨(l ++ l').toArray⟩ := by
    apply ByteArray.ext; simp
  rw [e] at h; exact h
theorem str_inj {l l' : Bs} (h : ByteArray.mk l.toArray = ByteArray.mk l'.toArray) : l = l' := by
  have := congrArg (fun s : ByteArray => s.data.toList) h; simpa using this
theorem dec_str (l l' : Bs) : decide (ByteArray.mk l.toArray = ByteArray.mk l'.toArray) = decide (l = l') := by
  by_cases h : l = l'
  · subst h; simp
  · have : ByteArray.mk l.toArray ≠ ByteArray.mk l'.toArray := fun e => h (str_inj e)
    simp [h, this]
theorem rd_strEqL (hx : ev E x = some (str l)) (hy : ev E y = some (str l')) : Rd P E H L (.binOp .eql T x y T') t (.bool (decide (l = l'))) := by
  rw [← dec_str]; exact rd_strEq hx hy
theorem rd_strNeL (hx : ev E x = some (str l)) (hy : ev E y = some (str l')) : Rd P E H L (.binOp .neq T x y T') t (.bool (!decide (l = l'))) := by
  rw [← dec_str]; exact rd_strNe hx hy
theorem extract_str (l : Bs) (a b : Nat) : (ByteArray.mk l.toArray).extract a b = ⟨((l.take b).drop a).toArray⟩ := by
  apply ByteArray.ext
  rw [ByteArray.data_extract, List.extract_toArray, List.drop_take]
theorem rd_sliceStrL {lo hi : Option Operand} {a h : Nat} (hT : P.underlying T = some .string) (hx : ev E x = some (str l))
    (hl : match lo with | none => a = 0 | some q => ∃ kk i, ev E q = some (.int kk i) ∧ i = (a : Int))
    (hh : match hi with | none => h = l.length | some q => ∃ kk i, ev E q = some (.int kk i) ∧ i = (h : Int)) (hlh : a ≤ h) (hhc : h ≤ l.length) :
    Rd P E H L (.slice T x lo hi none) t (str ((l.take h).drop a)) := by
  have h' := rd_sliceStr (P := P) (H := H) (L := L) (t := t) hT hx hl hh hlh hhc
  rw [extract_str] at h'
  exact h'
theorem rd_indexStrL {kk : IntKind} {i : Int} {q : UInt8} (hT : P.underlying T = some .string) (hx : ev E x = some (str l)) (hy : ev E y = some (.int kk i)) (h0 : 0 ≤ i) (hq : l[i.toNat]? = some q) :
    Rd P E H L (.index T x y) t (.int .u8 q.toNat) := rd_indexStr hT hx hy h0 (by
      have hlt := (List.getElem?_eq_some_iff.1 hq).1
      have h2 : i.toNat < (ByteArray.mk l.toArray).size := by simpa [size_str] using hlt
      rw [getElem?_pos (ByteArray.mk l.toArray) i.toNat h2]
      have := (List.getElem?_eq_some_iff.1 hq).2
      simp [ByteArray.getElem_eq_getElem_data, this])
end
end Go.VK
