/-
  What each operation gives: unsigned numbers of 32 bits; arrays of them.
-/
import Derived.Test.YtfhldfjknagidaaDoorVKi
set_option linter.unusedSimpArgs false
set_option linter.unusedVariables false
namespace Go.VK
open Go.Tr

abbrev w32 (x : UInt32) : Value := .int .u32 (x.toNat : Int)
theorem Cells.own {H : Gh} {L : Chunks} {b : Nat} {l : List Value} {T : TypeId} {z : Nat × Nat} (h : (b, Obj.cells l.toArray T z) ∈ L) : Cells H L b l := ⟨T, z, .inr h⟩
section
variable {P : Program} {E : Env} {H : Gh} {L : Chunks} {t T T' : TypeId} {x y c : Operand} {a b : UInt32} {k : Nat}

theorem wrap32 (n : Nat) : IntKind.u32.wrap (n : Int) = ((n % 4294967296 : Nat) : Int) := by simp [IntKind.wrap, IntKind.bits, IntKind.signed]
theorem bits32 (a : UInt32) : (BitVec.ofInt IntKind.u32.bits (a.toNat : Int)).toNat = a.toNat := by
  have := a.toNat_lt
  simp [IntKind.bits]
theorem rd_add32 (hx : ev E x = some (w32 a)) (hy : ev E y = some (w32 b)) : Rd P E H L (.binOp .add T x y T') t (w32 (a + b)) :=
  rd_add hx hy (by rw [← Int.natCast_add, wrap32, UInt32.toNat_add])
theorem rd_mul32 {i : Int} (hx : ev E x = some (.int .u32 i)) (hi : i = (a.toNat : Int)) (hy : ev E y = some (w32 b)) : Rd P E H L (.binOp .mul T x y T') t (w32 (a * b)) :=
  rd_mul hx hy (by subst hi; rw [← Int.natCast_mul, wrap32, UInt32.toNat_mul])
theorem rd_and32 (hx : ev E x = some (w32 a)) (hy : ev E y = some (w32 b)) : Rd P E H L (.binOp .and T x y T') t (w32 (a &&& b)) :=
  rd_bits (.inl rfl) hx hy (by
    simp only [BitVec.toNat_and, bits32, wrap32, ← UInt32.toNat_and]
    rw [Nat.mod_eq_of_lt (UInt32.toNat_lt _)])
theorem rd_or32 (hx : ev E x = some (w32 a)) (hy : ev E y = some (w32 b)) : Rd P E H L (.binOp .or T x y T') t (w32 (a ||| b)) :=
  rd_bits (.inr (.inl rfl)) hx hy (by
    simp only [BitVec.toNat_or, bits32, wrap32, ← UInt32.toNat_or]
    rw [Nat.mod_eq_of_lt (UInt32.toNat_lt _)])
theorem rd_xor32 (hx : ev E x = some (w32 a)) (hy : ev E y = some (w32 b)) : Rd P E H L (.binOp .xor T x y T') t (w32 (a ^^^ b)) :=
  rd_bits (.inr (.inr rfl)) hx hy (by
    simp only [BitVec.toNat_xor, bits32, wrap32, ← UInt32.toNat_xor]
    rw [Nat.mod_eq_of_lt (UInt32.toNat_lt _)])
theorem rd_not32 (hx : ev E x = some (w32 a)) : Rd P E H L (.unOp .xor T x) t (w32 (~~~a)) :=
  rd_xor1 hx (by
    have e : (BitVec.ofInt IntKind.u32.bits (if IntKind.u32.signed = true then -1 else IntKind.u32.max)).toNat = 4294967295 := by decide
    simp only [BitVec.toNat_xor, bits32, e, wrap32]
    have e2 : (4294967295 : Nat) ^^^ a.toNat = (~~~a).toNat := by
      have : (4294967295 : Nat) = (4294967295 : UInt32).toNat := rfl
      rw [this, ← UInt32.toNat_xor]
      have h1 : (4294967295 : UInt32) = -1 := rfl
      rw [h1, UInt32.xor_comm, UInt32.xor_neg_one]
    rw [e2, Nat.mod_eq_of_lt (UInt32.toNat_lt _)])
theorem min32 (hk : k < 32) : min k IntKind.u32.bits = k := by simp [IntKind.bits]; omega
theorem rd_shr32 {ky : IntKind} {q : Int} (hk : k < 32) (hx : ev E x = some (w32 a)) (hy : ev E y = some (.int ky q)) (hq : q = (k : Int)) : Rd P E H L (.binOp .shr T x y T') t (w32 (a >>> UInt32.ofNat k)) :=
  rd_shr hx hy (by omega) (by
    subst hq
    rw [Int.toNat_natCast, min32 hk, Int.fdiv_eq_ediv_of_nonneg _ (Int.pow_nonneg (by decide))]
    rw [UInt32.toNat_shiftRight, UInt32.toNat_ofNat_of_lt' (by simp [UInt32.size]; omega), Nat.mod_eq_of_lt hk, Nat.shiftRight_eq_div_pow]
    simp)
theorem rd_shl32 {ky : IntKind} {q : Int} (hk : k < 32) (hx : ev E x = some (w32 a)) (hy : ev E y = some (.int ky q)) (hq : q = (k : Int)) : Rd P E H L (.binOp .shl T x y T') t (w32 (a <<< UInt32.ofNat k)) :=
  rd_shl hx hy (by omega) (by
    subst hq
    rw [Int.toNat_natCast, min32 hk]
    rw [UInt32.toNat_shiftLeft, UInt32.toNat_ofNat_of_lt' (by simp [UInt32.size]; omega), Nat.mod_eq_of_lt hk, Nat.shiftLeft_eq]
    have := wrap32 (a.toNat * 2 ^ k)
    simpa using this)
theorem rd_conv8_32 {ds : TypeDesc} (hs : P.underlying T = some ds) (hd : P.underlying T' = some (.int .u32)) {q : UInt8} (hx : ev E x = some (u8v q)) : Rd P E H L (.convert T T' x) t (w32 q.toUInt32) :=
  rd_convInt hs hd hx (by rw [wrap32, Nat.mod_eq_of_lt (by have := q.toNat_lt; omega)]; simp)
theorem rd_conv32_8 {ds : TypeDesc} (hs : P.underlying T = some ds) (hd : P.underlying T' = some (.int .u8)) (hx : ev E x = some (w32 a)) : Rd P E H L (.convert T T' x) t (u8v a.toUInt8) :=
  rd_convInt hs hd hx (by rw [IntKind.wrap_u8]; simp)

/-! ### Parts of slices -/
theorem rd_sliceHi {e : TypeId} {n b o len cap h : Nat} {q : Operand} {kk : IntKind} {i : Int} (hT : P.underlying T = some (.slice e)) (hk : ∀ w, (sizeOf e).run P w = .ok n w) (hx : ev E x = some (.slice (some ⟨b, o, none⟩) len cap))
    (hq : ev E q = some (.int kk i)) (hi : i = (h : Int)) (hh : h ≤ cap) : Rd P E H L (.slice T x none (some q) none) t (.slice (some ⟨b, o, none⟩) h cap) := by
  have r := rd_sliceS (H := H) (L := L) (t := t) (lo := none) (hi := some q) (l := 0) (h := h) hT hk hx rfl ⟨kk, i, hq, hi⟩ (Nat.zero_le _) hh
  rw [Nat.zero_mul] at r
  have e : (if cap = 0 then some (⟨b, o, none⟩ : Addr) else Option.map (fun x : Addr => x.add 0) (some ⟨b, o, none⟩)) = some ⟨b, o, none⟩ := by
    split
    · rfl
    · simp [addr_add]
  rwa [e] at r
theorem rd_sliceLo {e : TypeId} {n b o len cap l : Nat} {q : Operand} {kk : IntKind} {i : Int} (hT : P.underlying T = some (.slice e)) (hk : ∀ w, (sizeOf e).run P w = .ok n w) (hx : ev E x = some (.slice (some ⟨b, o, none⟩) len cap))
    (hq : ev E q = some (.int kk i)) (hi : i = (l : Int)) (hl : l ≤ len) (hc : len ≤ cap) :
    Rd P E H L (.slice T x (some q) none none) t (.slice (some ⟨b, if cap = l then o else o + l * n, none⟩) (len - l) (cap - l)) := by
  have r := rd_sliceS (H := H) (L := L) (t := t) (lo := some q) (hi := none) (l := l) (h := len) hT hk hx ⟨kk, i, hq, hi⟩ rfl hl hc
  have e : (if cap = l then some (⟨b, o, none⟩ : Addr) else Option.map (fun x : Addr => x.add (l * n)) (some ⟨b, o, none⟩)) = some ⟨b, if cap = l then o else o + l * n, none⟩ := by
    split
    · rfl
    · simp [addr_add]
  rwa [e] at r

theorem nx_make {T u e bytes n : Nat} {z : Value} (A : AppT P T u e 1 bytes z) (hz1 : z.oneCell' = true) (hx : ev E x = some (.int .i64 (n : Int))) (hy : ev E y = some (.int .i64 (n : Int))) (hn0 : n ≠ 0) (hn : n < 1048576) (hb : bytes * n < 1048576) :
    Nx P E H L (.makeSlice T x y) t (fun u H' L' => ∃ b, u = .slice (some ⟨b, 0, none⟩) n n ∧ H = H' ∧ L' = (b, .cells (List.replicate n z).toArray e (0, 0)) :: L) := by
  obtain ⟨i, hi, hz, hsz, hby⟩ := A.parts
  refine Nx.of_run fun a w N hA hS => ⟨.value (.slice (some ⟨w.heap.size, 0, none⟩) n n), { w with heap := w.heap.push (.cells (List.replicate n z).toArray e (0, 0)) }, H, _, _, ?_,
    .inl rfl, Gh.le_refl _, hS.new _, w.heap.size, rfl, rfl, rfl⟩
  have hw : IntKind.i64.wrap (n : Int) = (n : Int) := by rw [IntKind.wrap_i64]; omega
  have hzc : z.cells = #[z] := by cases z <;> first | rfl | (simp [Value.oneCell'] at hz1)
  have ha : ∀ w, (asInt (.int .i64 (n : Int))).run P w = .ok (n : Int) w := fun _ => rfl
  have h1 : ¬ ((n : Int) < 0) := by omega
  have h2 : ¬ ((i.bytes : Int) * (n : Int) > 2 ^ 48) := by
    rw [hby]
    have : ((bytes : Int) * (n : Int)) = ((bytes * n : Nat) : Int) := by simp
    rw [this]; omega
  have h3 : ¬ ((281474976710656 : Int) < (i.bytes : Int) * (n : Int)) := by simpa using h2
  simp [execOp, hA.ev hx, hA.ev hy, Instr.makeSlice, run_underlying A.und, typeInfo, hi, sizeOf, zeroValue, hz, hsz, newRow, hzc, hn0, hw, h1, h3, ha]
  congr 2
  apply Array.ext
  · simp
  · intro j h4 h5
    simp [Nat.mod_one]

/-! ### Lists of them in memory -/
theorem oneCells_w32 (l : List UInt32) : oneCells (l.map w32) := fun u hu => by
  obtain ⟨b, _, rfl⟩ := List.mem_map.1 hu; rfl
theorem w32_at (l : List UInt32) {j : Nat} (h : j < l.length) : (l.map w32)[j]? = some (w32 (l.getD j 0)) := by
  simp [List.getD_eq_getElem?_getD, h]
theorem list8 {α : Type} {l : List α} (h : l.length = 8) : ∃ a b c d e f g i, l = [a, b, c, d, e, f, g, i] := by
  match l, h with
  | [a, b, c, d, e, f, g, i], _ => exact ⟨a, b, c, d, e, f, g, i, rfl⟩
/-- A list of which the first ones are set. -/
theorem wr_next {α : Type} (f : α → Value) (A : List α) (z x : α) (n : Nat) (h : A.length < n) :
    wr ((A ++ List.replicate (n - A.length) z).map f) A.length [f x] = (((A ++ [x]) ++ List.replicate (n - (A.length + 1)) z).map f) := by
  obtain ⟨m, hm⟩ : ∃ m, n - A.length = m + 1 := ⟨n - A.length - 1, by omega⟩
  have hm2 : n - (A.length + 1) = m := by omega
  rw [hm, hm2, wr]
  simp [List.replicate_succ, List.drop_append]
end
end Go.VK
