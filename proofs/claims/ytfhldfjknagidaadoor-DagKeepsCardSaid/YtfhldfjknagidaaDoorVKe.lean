/-
  What each operation gives: arithmetic, comparisons; new blocks, stores, calls.
-/
import Derived.Test.YtfhldfjknagidaaDoorVKd
import Derived.Stop.BytesEq
set_option linter.unusedSimpArgs false
set_option linter.unusedVariables false
namespace Go.VK

def u8v (b : UInt8) : Value := .int .u8 b.toNat

section
variable {P : Program} {E : Env} {H : Gh} {L : Chunks} {t T T' : TypeId} {x y c : Operand} {v u : Value} {b o : Nat} {k : IntKind} {m q r : Int}

theorem rd_add (hx : ev E x = some (.int k m)) (hy : ev E y = some (.int k q)) (hr : k.wrap (m + q) = r) : Rd P E H L (.binOp .add T x y T') t (.int k r) := fun a w n hA _ => by
  simp [execOp, hA.ev hx, hA.ev hy, eqGuard, binOp, Op.intArith, hr]
theorem rd_sub (hx : ev E x = some (.int k m)) (hy : ev E y = some (.int k q)) (hr : k.wrap (m - q) = r) : Rd P E H L (.binOp .sub T x y T') t (.int k r) := fun a w n hA _ => by
  simp [execOp, hA.ev hx, hA.ev hy, eqGuard, binOp, Op.intArith, hr]
theorem rd_mul (hx : ev E x = some (.int k m)) (hy : ev E y = some (.int k q)) (hr : k.wrap (m * q) = r) : Rd P E H L (.binOp .mul T x y T') t (.int k r) := fun a w n hA _ => by
  simp [execOp, hA.ev hx, hA.ev hy, eqGuard, binOp, Op.intArith, hr]
theorem rd_quo (hx : ev E x = some (.int k m)) (hy : ev E y = some (.int k q)) (h0 : q ≠ 0) (hr : k.wrap (m.tdiv q) = r) : Rd P E H L (.binOp .quo T x y T') t (.int k r) := fun a w n hA _ => by
  simp [execOp, hA.ev hx, hA.ev hy, eqGuard, binOp, Op.intDiv, h0, hr]
theorem rd_rem (hx : ev E x = some (.int k m)) (hy : ev E y = some (.int k q)) (h0 : q ≠ 0) (hr : m.tmod q = r) : Rd P E H L (.binOp .rem T x y T') t (.int k r) := fun a w n hA _ => by
  simp [execOp, hA.ev hx, hA.ev hy, eqGuard, binOp, Op.intDiv, h0, hr]
theorem rd_eql (hx : ev E x = some (.int k m)) (hy : ev E y = some (.int k q)) : Rd P E H L (.binOp .eql T x y T') t (.bool (m == q)) := fun a w n hA _ => by
  simp [execOp, hA.ev hx, hA.ev hy, eqGuard, binOp, Op.intCmp]
theorem rd_neq (hx : ev E x = some (.int k m)) (hy : ev E y = some (.int k q)) : Rd P E H L (.binOp .neq T x y T') t (.bool (m != q)) := fun a w n hA _ => by
  simp [execOp, hA.ev hx, hA.ev hy, eqGuard, binOp, Op.intCmp]
theorem rd_lss (hx : ev E x = some (.int k m)) (hy : ev E y = some (.int k q)) : Rd P E H L (.binOp .lss T x y T') t (.bool (decide (m < q))) := fun a w n hA _ => by
  simp [execOp, hA.ev hx, hA.ev hy, eqGuard, binOp, Op.intCmp]
theorem rd_leq (hx : ev E x = some (.int k m)) (hy : ev E y = some (.int k q)) : Rd P E H L (.binOp .leq T x y T') t (.bool (decide (m ≤ q))) := fun a w n hA _ => by
  simp [execOp, hA.ev hx, hA.ev hy, eqGuard, binOp, Op.intCmp]
theorem rd_gtr (hx : ev E x = some (.int k m)) (hy : ev E y = some (.int k q)) : Rd P E H L (.binOp .gtr T x y T') t (.bool (decide (q < m))) := fun a w n hA _ => by
  simp [execOp, hA.ev hx, hA.ev hy, eqGuard, binOp, Op.intCmp]
theorem rd_geq (hx : ev E x = some (.int k m)) (hy : ev E y = some (.int k q)) : Rd P E H L (.binOp .geq T x y T') t (.bool (decide (q ≤ m))) := fun a w n hA _ => by
  simp [execOp, hA.ev hx, hA.ev hy, eqGuard, binOp, Op.intCmp]
theorem rd_bits {op : BinOp} (ho : op = .and ∨ op = .or ∨ op = .xor) (hx : ev E x = some (.int k m)) (hy : ev E y = some (.int k q)) (hr : k.wrap (match op with
    | .and => (BitVec.ofInt k.bits m &&& BitVec.ofInt k.bits q).toNat | .or => (BitVec.ofInt k.bits m ||| BitVec.ofInt k.bits q).toNat | _ => (BitVec.ofInt k.bits m ^^^ BitVec.ofInt k.bits q).toNat : Nat) = r) :
    Rd P E H L (.binOp op T x y T') t (.int k r) := fun a w n hA _ => by
  rcases ho with rfl | rfl | rfl <;> simp only at hr <;> simp [execOp, hA.ev hx, hA.ev hy, eqGuard, binOp, Op.intBits, ← hr]
theorem rd_shl {ky : IntKind} (hx : ev E x = some (.int k m)) (hy : ev E y = some (.int ky q)) (h0 : 0 ≤ q) (hr : k.wrap (m * 2 ^ (min q.toNat k.bits)) = r) : Rd P E H L (.binOp .shl T x y T') t (.int k r) := fun a w n hA _ => by
  have : ¬ q < 0 := by omega
  simp [execOp, hA.ev hx, hA.ev hy, eqGuard, binOp, Op.shift, this, hr]
theorem rd_shr {ky : IntKind} (hx : ev E x = some (.int k m)) (hy : ev E y = some (.int ky q)) (h0 : 0 ≤ q) (hr : m.fdiv (2 ^ (min q.toNat k.bits)) = r) : Rd P E H L (.binOp .shr T x y T') t (.int k r) := fun a w n hA _ => by
  have : ¬ q < 0 := by omega
  simp [execOp, hA.ev hx, hA.ev hy, eqGuard, binOp, Op.shift, this, hr]
theorem rd_not {p : Bool} (hx : ev E x = some (.bool p)) : Rd P E H L (.unOp .not T x) t (.bool (!p)) := fun a w n hA _ => by
  simp [execOp, hA.ev hx, Op.unary]
theorem rd_neg (hx : ev E x = some (.int k m)) (hr : k.wrap (0 - m) = r) : Rd P E H L (.unOp .neg T x) t (.int k r) := fun a w n hA _ => by
  simp [execOp, hA.ev hx, Op.unary, Op.intArith, ← hr]
theorem rd_xor1 (hx : ev E x = some (.int k m)) (hr : k.wrap ((BitVec.ofInt k.bits (if k.signed then -1 else k.max) ^^^ BitVec.ofInt k.bits m).toNat : Nat) = r) : Rd P E H L (.unOp .xor T x) t (.int k r) := fun a w n hA _ => by
  simp [execOp, hA.ev hx, Op.unary, Op.intBits, ← hr]
theorem rd_convInt {k' : IntKind} {ds : TypeDesc} (hs : P.underlying T = some ds) (hd : P.underlying T' = some (.int k')) (hx : ev E x = some (.int k m)) (hr : k'.wrap m = r) :
    Rd P E H L (.convert T T' x) t (.int k' r) := fun a w n hA _ => by
  simp [execOp, hA.ev hx, convert, run_underlying hs, run_underlying hd, Conv.intToInt, hr]
theorem rd_boolEq {p p' : Bool} (hT : P.underlying T = some .bool) (hx : ev E x = some (.bool p)) (hy : ev E y = some (.bool p')) : Rd P E H L (.binOp .eql T x y T') t (.bool (p == p')) := fun a w n hA _ => by
  have h := run_eql_bool (P := P) w T p p' hT
  simp [execOp, hA.ev hx, hA.ev hy, eqGuard, h]
theorem rd_boolNe {p p' : Bool} (hT : P.underlying T = some .bool) (hx : ev E x = some (.bool p)) (hy : ev E y = some (.bool p')) : Rd P E H L (.binOp .neq T x y T') t (.bool (p != p')) := fun a w n hA _ => by
  have h := run_equal_bool (P := P) w T p p' hT
  simp [execOp, hA.ev hx, hA.ev hy, eqGuard, binOp, h, bne]
theorem rd_strAdd {s s' : ByteArray} (hx : ev E x = some (.string s)) (hy : ev E y = some (.string s')) (hb : s.size + s'.size < 9223372036854775808) : Rd P E H L (.binOp .add T x y T') t (.string (s ++ s')) := fun a w n hA _ => by
  have : ¬ ((s.size + s'.size : Nat) : Int) > IntKind.i64.max := by
    have : IntKind.i64.max = 9223372036854775807 := by decide
    omega
  simp only [execOp, hA.ev hx, hA.ev hy, eqGuard, binOp, Op.stringOp, if_neg this]
  simp
theorem bytes_beq (s s' : ByteArray) : (s.toList == s'.toList) = decide (s = s') := by
  rw [ByteArray.toList_eq, ByteArray.toList_eq]
  obtain ⟨⟨x⟩⟩ := s
  obtain ⟨⟨y⟩⟩ := s'
  by_cases h : x = y
  · subst h; simp
  · have h' : (⟨⟨x⟩⟩ : ByteArray) ≠ ⟨⟨y⟩⟩ := fun e => h (by cases e; rfl)
    simp [h, h']
theorem rd_strEq {s s' : ByteArray} (hx : ev E x = some (.string s)) (hy : ev E y = some (.string s')) : Rd P E H L (.binOp .eql T x y T') t (.bool (decide (s = s'))) := fun a w n hA _ => by
  simp only [execOp, hA.ev hx, hA.ev hy, eqGuard, binOp, Op.stringOp, bytes_beq]
  simp
theorem rd_strNe {s s' : ByteArray} (hx : ev E x = some (.string s)) (hy : ev E y = some (.string s')) : Rd P E H L (.binOp .neq T x y T') t (.bool (!decide (s = s'))) := fun a w n hA _ => by
  simp only [execOp, hA.ev hx, hA.ev hy, eqGuard, binOp, Op.stringOp, bytes_beq]
  simp

/-- Two arrays of bytes. -/
structure TBytes (P : Program) (T e : TypeId) (n : Nat) : Prop where
  und : P.underlying T = some (.array n e)
  byte : P.underlying e = some (.int .u8)
  size : ∀ w, (sizeOf e).run P w = .ok 1 w
  guard : P.eqGuardType P.depth T = false
theorem u8v_eq : u8v = Extern.Stop.cell := rfl
theorem rd_arrEq {e : TypeId} {n : Nat} (hT : TBytes P T e n) {l l' : List UInt8} (hl : l.length = n) (hl' : l'.length = n) (hx : ev E x = some (ag (l.map u8v))) (hy : ev E y = some (ag (l'.map u8v))) :
    Rd P E H L (.binOp .eql T x y T') t (.bool (l == l')) := fun a w N hA _ => by
  have h1 := run_eqGuard_agg (P := P) w .eql T x y (l.map u8v).toArray (l'.map u8v).toArray hT.guard
  have h2 := run_eql_bytes (P := P) w T e n hT.und hT.byte hT.size l l' hl hl'
  simp only [execOp, hA.ev hx, hA.ev hy]
  rw [Sem.run_bind, Sem.run_bind, h1]
  simp only [Result.andThen_ok]
  rw [u8v_eq, h2]
  rfl
theorem rd_arrNe {e : TypeId} {n : Nat} (hT : TBytes P T e n) {l l' : List UInt8} (hl : l.length = n) (hl' : l'.length = n) (hx : ev E x = some (ag (l.map u8v))) (hy : ev E y = some (ag (l'.map u8v))) :
    Rd P E H L (.binOp .neq T x y T') t (.bool (l != l')) := fun a w N hA _ => by
  have h1 := run_eqGuard_agg (P := P) w .neq T x y (l.map u8v).toArray (l'.map u8v).toArray hT.guard
  have h2 := run_equalIn_bytes (P := P) w 9998 T e n hT.und hT.byte hT.size l l' hl hl'
  simp only [execOp, hA.ev hx, hA.ev hy]
  rw [Sem.run_bind, Sem.run_bind, h1]
  simp only [Result.andThen_ok]
  rw [run_neq_struct, u8v_eq, h2]
  rfl
theorem eq_ptr_nil (w : World) (d : Nat) (T : TypeId) {e : TypeId} (hT : P.underlying T = some (.pointer e)) (p : Option Addr) : (Op.equalIn (d + 1) T (.pointer p) (.pointer none)).run P w = .ok p.isNone w := by
  cases p <;> simp [Op.equalIn, run_underlying hT]
theorem eq_slice_nil (w : World) (d : Nat) (T : TypeId) {e : TypeId} (hT : P.underlying T = some (.slice e)) (p : Option Addr) (l n' m' n'' : Nat) : (Op.equalIn (d + 1) T (.slice p l n') (.slice none m' n'')).run P w = .ok p.isNone w := by
  cases p <;> simp [Op.equalIn, run_underlying hT]
theorem rd_ptrNil {e : TypeId} {p : Option Addr} (hT : P.underlying T = some (.pointer e)) (hx : ev E x = some (.pointer p)) (hy : ev E y = some (.pointer none)) :
    Rd P E H L (.binOp .eql T x y T') t (.bool p.isNone) := fun a w n hA _ => by
  have h : (Op.equal T (.pointer p) (.pointer none)).run P w = .ok p.isNone w := by
    exact eq_ptr_nil w 9999 T hT p
  simp only [execOp, hA.ev hx, hA.ev hy, eqGuard, binOp]
  simp [h]
theorem rd_sliceNil {e : TypeId} {p : Option Addr} {l n' m' n'' : Nat} (hT : P.underlying T = some (.slice e)) (hx : ev E x = some (.slice p l n')) (hy : ev E y = some (.slice none m' n'')) :
    Rd P E H L (.binOp .eql T x y T') t (.bool p.isNone) := fun a w n hA _ => by
  have h : (Op.equal T (.slice p l n') (.slice none m' n'')).run P w = .ok p.isNone w := by
    exact eq_slice_nil w 9999 T hT p l n' m' n''
  simp only [execOp, hA.ev hx, hA.ev hy, eqGuard, binOp]
  simp [h]
theorem rd_max2 {ts : Array TypeId} (hx : ev E x = some (.int k m)) (hy : ev E y = some (.int k q)) (hr : (if q > m then q else m) = r) : Rd P E H L (.call ⟨.builtin .max, #[x, y], ts⟩) t (.int k r) := fun a w n hA _ => by
  simp [← hr, execOp, resolve, hA.ev hx, hA.ev hy, invoke, Go.builtin, Builtin.max_, Builtin.max2]
theorem rd_min2 {ts : Array TypeId} (hx : ev E x = some (.int k m)) (hy : ev E y = some (.int k q)) (hr : (if q < m then q else m) = r) : Rd P E H L (.call ⟨.builtin .min, #[x, y], ts⟩) t (.int k r) := fun a w n hA _ => by
  simp [← hr, execOp, resolve, hA.ev hx, hA.ev hy, invoke, Go.builtin, Builtin.min_, Builtin.min2]
theorem foldl_push : ∀ (bs : List UInt8) (s : ByteArray), ((bs.map fun b => (b.toNat : Int)).foldl (fun r n => r.push (UInt8.ofNat n.toNat)) s) = ⟨s.data ++ bs.toArray⟩
  | [], s => by simp
  | b :: r, s => by
    rw [List.map_cons, List.foldl_cons, foldl_push r]
    simp [ByteArray.push]
theorem rd_convStr {e : TypeId} (hs : P.underlying T = some (.slice e)) (hd : P.underlying T' = some .string) (he : P.underlying e = some (.int .u8)) {A : Option Addr} {len cap : Nat}
    (hx : ev E x = some (.slice A len cap)) {l : List Value} {bs : List UInt8} (hlen : bs.length = len) (hA' : A ≠ none → len ≠ 0 → A = some ⟨b, o, none⟩ ∧ Cells H L b l ∧ Seg l o (bs.map u8v)) (hnil : A = none → len = 0) :
    Rd P E H L (.convert T T' x) t (.string ⟨bs.toArray⟩) := fun a w n hA hS => by
  have hc := run_convert_bytes_string (P := P) w T T' e A len cap hs he hd
  simp only [execOp, hA.ev hx]
  rw [Sem.run_bind, hc]
  cases A with
  | none =>
    have := hnil rfl
    have hbs : bs = [] := List.length_eq_zero_iff.1 (by omega)
    subst hbs
    simp [Conv.bytesToString]
    rfl
  | some ad =>
    have hl : (loadCells ad len).run P w = .ok ((bs.map fun b => (b.toNat : Int)).map (Value.int .u8)).toArray w := by
      have e1 : (bs.map fun b => (b.toNat : Int)).map (Value.int .u8) = bs.map u8v := by simp [u8v]
      rw [e1]
      by_cases h0 : len = 0
      · have hbs : bs = [] := List.length_eq_zero_iff.1 (by omega)
        subst hbs
        subst h0
        simp [loadCells, loadCellsFrom]
      · obtain ⟨h1, h2, h3⟩ := hA' (by simp) h0
        cases h1
        have h4 := run_loadCells_seg (P := P) hS h2 h3
        rwa [List.length_map, hlen] at h4
    rw [run_bytesToString w ad len cap _ hl, foldl_push]
    simp
end
end Go.VK
