/-
  What each operation gives: those that only look.
-/
import Derived.Test.YtfhldfjknagidaaDoorVKc
set_option linter.unusedSimpArgs false
set_option linter.unusedVariables false
namespace Go.VK

/-! ## Blocks that are looked at -/
def Cells (H : Gh) (L : Chunks) (b : Nat) (l : List Value) : Prop := ∃ T z, H.imm b = some (.cells l.toArray T z) ∨ (b, Obj.cells l.toArray T z) ∈ L
theorem Cells.mono {H H' : Gh} {L L' : Chunks} {b : Nat} {l : List Value} (h : Cells H L b l) (hH : H ≤ H') (hL : ∀ x ∈ L, x ∈ L') : Cells H' L' b l := by
  obtain ⟨T, z, h | h⟩ := h
  · exact ⟨T, z, .inl (hH.imm _ _ h)⟩
  · exact ⟨T, z, .inr (hL _ h)⟩
theorem Cells.get {w : World} {H : Gh} {L : Chunks} {b : Nat} {l : List Value} (hs : Sat w H L) (h : Cells H L b l) : ∃ T z, w.heap[b]? = some (.cells l.toArray T z) := by
  obtain ⟨T, z, h | h⟩ := h
  · exact ⟨T, z, hs.imm _ _ h⟩
  · exact ⟨T, z, (hs.own _ h).1⟩
theorem Cells.cell {w : World} {H : Gh} {L : Chunks} {b : Nat} {l : List Value} (hs : Sat w H L) (h : Cells H L b l) {j : Nat} {v : Value} (hj : l[j]? = some v) : w.cell? ⟨b, j, none⟩ = some v := by
  obtain ⟨T, z, hb⟩ := h.get hs
  simp [World.cell?, hb, hj]

/-- m stands in l from o on. -/
def Seg (l : List Value) (o : Nat) (m : List Value) : Prop := ∀ j v, m[j]? = some v → l[o + j]? = some v
theorem Seg.all (l : List Value) : Seg l 0 l := fun j v h => by simpa using h
theorem Seg.head {l m : List Value} : Seg (m ++ l) 0 m := fun j v h => by
  have hl : j < m.length := (List.getElem?_eq_some_iff.1 h).1
  rw [Nat.zero_add, List.getElem?_append_left hl]; exact h
theorem Seg.skip {l m p : List Value} {o o' : Nat} (h : Seg l o m) (he : o' = p.length + o) : Seg (p ++ l) o' m := fun j v hj => by
  subst he
  rw [List.getElem?_append_right (by omega), show p.length + o + j - p.length = o + j by omega]; exact h j v hj
theorem Seg.cons {l m : List Value} {o : Nat} {x : Value} (h : Seg l o m) : Seg (x :: l) (o + 1) m := fun j v hj => by
  rw [show o + 1 + j = (o + j) + 1 by omega, List.getElem?_cons_succ]; exact h j v hj
theorem Seg.trans {l m q : List Value} {o o' : Nat} (h : Seg l o m) (k : Seg m o' q) : Seg l (o + o') q := fun j v hj => by
  have := h _ _ (k j v hj); rwa [← Nat.add_assoc] at this
theorem Seg.get {l m : List Value} {o j : Nat} {v : Value} (h : Seg l o m) (hj : m[j]? = some v) : l[o + j]? = some v := h j v hj
theorem Seg.append_left {l m r : List Value} {o : Nat} (h : Seg l o m) : Seg (l ++ r) o m := fun j v hj => by
  have h1 := h j v hj
  have hl : o + j < l.length := (List.getElem?_eq_some_iff.1 h1).1
  rw [List.getElem?_append_left hl]; exact h1

theorem addr_add (b o n : Nat) : (⟨b, o, none⟩ : Addr).add n = ⟨b, o + n, none⟩ := by
  unfold Addr.add; split
  · rename_i h; subst h; rfl
  · rfl

section
variable {P : Program} {E : Env} {H : Gh} {L : Chunks} {t T : TypeId} {x y c : Operand} {v u : Value} {b o : Nat}

theorem rd_move (hx : ev E x = some v) : Rd P E H L (.move x) t v := fun a w n hA _ => by
  simp [execOp, hA.ev hx]
theorem rd_assign (hx : ev E x = some v) : Rd P E H L (.assign x) t v := fun a w n hA _ => by
  simp [execOp, hA.ev hx]
theorem rd_pick_t (hc : ev E c = some (.bool true)) (hx : ev E x = some v) : Rd P E H L (.pick c x y) t v := fun a w n hA _ => by
  simp [execOp, hA.ev hc, hA.ev hx, asBool]
theorem rd_pick_f (hc : ev E c = some (.bool false)) (hy : ev E y = some v) : Rd P E H L (.pick c x y) t v := fun a w n hA _ => by
  simp [execOp, hA.ev hc, hA.ev hy, asBool]
theorem rd_nilCheck {a : Addr} (hx : ev E x = some (.pointer (some a))) : Rd P E H L (.nilCheck x) t (.pointer (some a)) := fun A w n hA _ => by
  simp [execOp, hA.ev hx]
theorem rd_extract {vs : Array Value} {i : Nat} (hx : ev E x = some (.tuple vs)) (hi : vs[i]? = some v) : Rd P E H L (.extract x i) t v := fun a w n hA _ => by
  simp [execOp, hA.ev hx, Instr.extract, hi]
theorem rd_makeFunc0 {fn : Fn} : Rd P E H L (.makeFunc fn #[] #[]) t (.func fn #[] #[]) := fun a w n hA _ => by
  simp [execOp, Instr.makeFunc]
theorem rd_makeFunc1 {fn : Fn} (hx : ev E x = some v) : Rd P E H L (.makeFunc fn #[] #[x]) t (.func fn #[] #[v]) := fun a w n hA _ => by
  simp [execOp, Instr.makeFunc, hA.ev hx]

/-! ### Loads -/
structure TOne (P : Program) (T : TypeId) : Prop where
  agg : ∀ w, (isAgg T).run P w = .ok false w
  size : ∀ w, (sizeOf T).run P w = .ok 1 w
structure TAgg (P : Program) (T : TypeId) (k : Nat) : Prop where
  agg : ∀ w, (isAgg T).run P w = .ok true w
  size : ∀ w, (sizeOf T).run P w = .ok k w

theorem rd_load1 (hT : TOne P T) (hx : ev E x = some (pt b o)) {l : List Value} (hc : Cells H L b l) (hl : l[o]? = some v) : Rd P E H L (.load T x) t v := fun a w n hA hS => by
  have h := hc.cell hS hl
  simp [execOp, hA.ev hx, Instr.loadAt, Instr.sureAddr, loadVar, hT.agg, h]

theorem run_loadCells_seg {w : World} (hS : Sat w H L) {l m : List Value} (hc : Cells H L b l) (hm : Seg l o m) : (loadCells ⟨b, o, none⟩ m.length).run P w = .ok m.toArray w := by
  refine run_loadCells_list w _ m fun j v hj => ?_
  rw [addr_add]
  exact hc.cell hS (hm j v hj)

theorem rd_loadA {k : Nat} (hT : TAgg P T k) (hx : ev E x = some (pt b o)) {l m : List Value} (hc : Cells H L b l) (hm : Seg l o m) (hk : m.length = k) : Rd P E H L (.load T x) t (ag m) := fun a w n hA hS => by
  subst hk
  have h := run_loadCells_seg (P := P) hS hc hm
  simp [execOp, hA.ev hx, Instr.loadAt, Instr.sureAddr, loadVar, hT.agg, hT.size, h]

theorem run_resC {w : World} {a : Act} {n p k : Nat} {E : Env} {H : Gh} {L : Chunks} {ty : TypeId} {b o : Nat} {l m : List Value} (hA : At a n E) (hS : Sat w H L) (hp : find E p = some (pt b o)) (hT : TAgg P ty k) (hc : Cells H L b l) (hm : Seg l o m) (hk : m.length = k) :
    ((asAddr (a.tmps.getD p undef)).run P w).andThen (fun ad w₁ => (loadVar ty ad).run P w₁) = .ok (ag m) w := by
  subst hk
  rw [hA.get _ _ hp]
  have h := run_loadCells_seg (P := P) hS hc hm
  simp [asAddr, loadVar, hT.agg, hT.size, h]
theorem resC1 {fn : Func} {p k : Nat} {ty : TypeId} {l m : List Value} (h : fn.results = #[.cell p ty]) (hp : find E p = some (pt b o)) (hT : TAgg P ty k) (hc : Cells H L b l) (hm : Seg l o m) (hk : m.length = k) : resVals P E H L fn (ag m) := fun a w n hA hS => by
  have h1 := run_resC (P := P) hA hS hp hT hc hm hk
  simp only [Array.getD_eq_getD_getElem?] at h1
  simp [results, h, Sem.run_bind, h1]
theorem resC2 {fn : Func} {p k q : Nat} {ty : TypeId} {l m : List Value} (h : fn.results = #[.cell p ty, .tmp q]) (hp : find E p = some (pt b o)) (hT : TAgg P ty k) (hc : Cells H L b l) (hm : Seg l o m) (hk : m.length = k) (hq : find E q = some v) :
    resVals P E H L fn (.tuple #[ag m, v]) := fun a w n hA hS => by
  have h1 := run_resC (P := P) hA hS hp hT hc hm hk
  have h2 := hA.get _ _ hq
  rw [results_cell_tmp h]
  cases hr : (asAddr (a.tmps.getD p undef)).run P w with
  | halt x w' => rw [hr] at h1; simp at h1
  | ok ad w' =>
    rw [hr] at h1
    simp only [Result.andThen_ok] at h1 ⊢
    rw [h1, h2]
    rfl

/-! ### Addresses -/
/-- Field i of a struct of type s lies so far in. -/
def FAddr (P : Program) (s : TypeId) (i off : Nat) : Prop := ∀ b o w, (Instr.fieldAt s (pt b o) i).run P w = .ok (pt b (o + off)) w
theorem faddr_of {s : TypeId} {i off : Nat} {fs : Array Field} {f : Field} (hs : P.underlying s = some (.struct fs)) (hf : fs[i]? = some f) (ho : f.offset = off) {k : Nat}
    (hk : ∀ w, (sizeOf f.type).run P w = .ok k w) (hk0 : Nat.beq k 0 = false) : FAddr P s i off := fun b o w => by
  have : k ≠ 0 := fun e => by subst e; simp at hk0
  simp [Instr.fieldAt, run_underlying hs, hf, Instr.sureAddr, fieldPlace, hk, this, ho, addr_add]
theorem rd_fieldAddr {s : TypeId} {i off : Nat} (hf : FAddr P s i off) (hx : ev E x = some (pt b o)) : Rd P E H L (.fieldAddr s x i) t (pt b (o + off)) := fun a w n hA _ => by
  simp [execOp, hA.ev hx, hf b o w]

theorem rd_indexS {e : TypeId} {k : Nat} (hT : P.underlying T = some (.slice e)) (hk : ∀ w, (sizeOf e).run P w = .ok k w) {A : Option Addr} {len cap : Nat} {kk : IntKind} {i : Int}
    (hx : ev E x = some (.slice A len cap)) (hy : ev E y = some (.int kk i)) (hA' : A = some ⟨b, o, none⟩) (h0 : 0 ≤ i) (hlt : i < len) :
    Rd P E H L (.indexAddr T x y) t (pt b (o + i.toNat * k)) := fun a w n hA _ => by
  subst hA'
  simp [execOp, hA.ev hx, hA.ev hy, Instr.indexAt, asIntOf, run_underlying hT, h0, hlt, hk, addr_add]
theorem rd_indexA {e : TypeId} {k len : Nat} (hT : P.underlying T = some (.array len e)) (hk : ∀ w, (sizeOf e).run P w = .ok k w) {kk : IntKind} {i : Int}
    (hx : ev E x = some (pt b o)) (hy : ev E y = some (.int kk i)) (h0 : 0 ≤ i) (hlt : i < len) :
    Rd P E H L (.indexAddr T x y) t (pt b (o + i.toNat * k)) := fun a w n hA _ => by
  simp [execOp, hA.ev hx, hA.ev hy, Instr.indexAt, asIntOf, run_underlying hT, h0, hlt, hk, addr_add, Instr.sureAddr]
/-- A byte of a string. -/
theorem rd_indexStr (hT : P.underlying T = some .string) {s : ByteArray} {kk : IntKind} {i : Int} {q : UInt8} (hx : ev E x = some (.string s)) (hy : ev E y = some (.int kk i)) (h0 : 0 ≤ i) (hq : s[i.toNat]? = some q) :
    Rd P E H L (.index T x y) t (.int .u8 q.toNat) := fun a w n hA _ => by
  simp [execOp, hA.ev hx, hA.ev hy, Instr.index, asIntOf, run_underlying hT, h0, hq]
/-- A cell of an array's value. -/
theorem rd_indexArr1 {e : TypeId} {len : Nat} (hT : P.underlying T = some (.array len e)) (he : TOne P e) {l : List Value} {kk : IntKind} {i : Int} (hx : ev E x = some (ag l)) (hy : ev E y = some (.int kk i)) (h0 : 0 ≤ i) (hlt : i < len)
    (hq : l[i.toNat]? = some v) : Rd P E H L (.index T x y) t v := fun a w n hA _ => by
  simp [execOp, hA.ev hx, hA.ev hy, Instr.index, asIntOf, run_underlying hT, h0, hlt, part, he.agg, he.size, hq]

/-! ### Slices -/
theorem rd_lenS {e : TypeId} {A : Option Addr} {len cap : Nat} (hT : P.underlying T = some (.slice e)) (hx : ev E x = some (.slice A len cap)) :
    Rd P E H L (.call ⟨.builtin .len, #[x], #[T]⟩) t (.int .i64 len) := fun a w n hA _ => by
  simp [execOp, resolve, hA.ev hx, invoke, Go.builtin, Builtin.len_, run_underlying hT, goInt]
theorem rd_lenStr {s : ByteArray} (hT : P.underlying T = some .string) (hx : ev E x = some (.string s)) :
    Rd P E H L (.call ⟨.builtin .len, #[x], #[T]⟩) t (.int .i64 s.size) := fun a w n hA _ => by
  simp [execOp, resolve, hA.ev hx, invoke, Go.builtin, Builtin.len_, run_underlying hT, goInt]

theorem rd_sliceArr {e : TypeId} {n : Nat} (hT : P.underlying T = some (.array n e)) (hk : ∀ w, (sizeOf e).run P w = .ok 1 w) (hx : ev E x = some (pt b o)) :
    Rd P E H L (.slice T x none none none) t (.slice (some ⟨b, o, none⟩) n n) := fun a w m hA _ => by
  simp [execOp, hA.ev hx, Instr.sliceAt, run_underlying hT, Instr.sureAddr, Instr.sliceBounds, hk, addr_add]
/-- s[lo:hi] of a slice. -/
theorem rd_sliceS {e : TypeId} {k : Nat} (hT : P.underlying T = some (.slice e)) (hk : ∀ w, (sizeOf e).run P w = .ok k w) {A : Option Addr} {len cap : Nat} (hx : ev E x = some (.slice A len cap))
    {lo hi : Option Operand} {l h : Nat} (hl : match lo with | none => l = 0 | some q => ∃ kk i, ev E q = some (.int kk i) ∧ i = (l : Int))
    (hh : match hi with | none => h = len | some q => ∃ kk i, ev E q = some (.int kk i) ∧ i = (h : Int)) (hlh : l ≤ h) (hhc : h ≤ cap) :
    Rd P E H L (.slice T x lo hi none) t (.slice (if cap = l then A else A.map (·.add (l * k))) (h - l) (cap - l)) := fun a w m hA _ => by
  have e1 : ∀ (n : Nat) (code : Instr.sliceBound (.int .i64 0) 0 .index = Instr.sliceBound (.int .i64 0) 0 .index), True := fun _ _ => trivial
  cases lo with
  | none =>
    simp only at hl
    subst hl
    cases hi with
    | none =>
      simp only at hh
      subst hh
      simp [execOp, hA.ev hx, Instr.sliceAt, Instr.slice, run_underlying hT, Instr.sliceBounds, hk]
    | some q =>
      obtain ⟨kk, i, hq, rfl⟩ := hh
      simp [execOp, hA.ev hx, hA.ev hq, Instr.sliceAt, Instr.slice, run_underlying hT, Instr.sliceBounds, Instr.sliceBound, asIntOf, hk, hhc]
  | some p =>
    obtain ⟨kp, ip, hp, rfl⟩ := hl
    cases hi with
    | none =>
      simp only at hh
      subst hh
      simp [execOp, hA.ev hx, hA.ev hp, Instr.sliceAt, Instr.slice, run_underlying hT, Instr.sliceBounds, Instr.sliceBound, asIntOf, hk, hlh]
    | some q =>
      obtain ⟨kk, i, hq, rfl⟩ := hh
      simp [execOp, hA.ev hx, hA.ev hq, hA.ev hp, Instr.sliceAt, Instr.slice, run_underlying hT, Instr.sliceBounds, Instr.sliceBound, asIntOf, hk, hlh, hhc]
/-- s[lo:hi] of a string. -/
theorem rd_sliceStr (hT : P.underlying T = some .string) {s : ByteArray} (hx : ev E x = some (.string s))
    {lo hi : Option Operand} {l h : Nat} (hl : match lo with | none => l = 0 | some q => ∃ kk i, ev E q = some (.int kk i) ∧ i = (l : Int))
    (hh : match hi with | none => h = s.size | some q => ∃ kk i, ev E q = some (.int kk i) ∧ i = (h : Int)) (hlh : l ≤ h) (hhc : h ≤ s.size) :
    Rd P E H L (.slice T x lo hi none) t (.string (s.extract l h)) := fun a w m hA _ => by
  cases lo with
  | none =>
    simp only at hl
    subst hl
    cases hi with
    | none =>
      simp only at hh
      subst hh
      simp [execOp, hA.ev hx, Instr.sliceAt, Instr.slice, run_underlying hT, Instr.sliceBounds]
    | some q =>
      obtain ⟨kk, i, hq, rfl⟩ := hh
      simp [execOp, hA.ev hx, hA.ev hq, Instr.sliceAt, Instr.slice, run_underlying hT, Instr.sliceBounds, Instr.sliceBound, asIntOf, hhc]
  | some p =>
    obtain ⟨kp, ip, hp, rfl⟩ := hl
    cases hi with
    | none =>
      simp only at hh
      subst hh
      simp [execOp, hA.ev hx, hA.ev hp, Instr.sliceAt, Instr.slice, run_underlying hT, Instr.sliceBounds, Instr.sliceBound, asIntOf, hlh]
    | some q =>
      obtain ⟨kk, i, hq, rfl⟩ := hh
      simp [execOp, hA.ev hx, hA.ev hq, hA.ev hp, Instr.sliceAt, Instr.slice, run_underlying hT, Instr.sliceBounds, Instr.sliceBound, asIntOf, hlh, hhc]

/-! ### Numbers, bools, strings -/
section
variable {k : IntKind} {m q : Int} {T' : TypeId}
end
end
end Go.VK
