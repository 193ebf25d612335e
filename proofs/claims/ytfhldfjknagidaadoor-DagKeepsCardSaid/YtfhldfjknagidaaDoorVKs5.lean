/-
  Walks: the reference's digests; digests of lists.
-/
import Derived.Test.YtfhldfjknagidaaDoorVKs4
set_option linter.unusedSimpArgs false
set_option linter.unusedVariables false
namespace Go.Proofs.YtfhldfjknagidaaDoor
open Go.VK Go.Tr
set_option maxRecDepth 20000
/-- The first j bytes of a word, put together. -/
def accW (p : Bs) (i : Nat) : Nat → UInt32
  | 0 => 0
  | j + 1 => 256 * accW p i j + (p.getD (4 * i + j) 0).toUInt32
theorem or_four {a b c d : Nat} (ha : a < 256) (hb : b < 256) (hc : c < 256) (hd : d < 256) : (a <<< 24 % 4294967296 ||| b <<< 16 % 4294967296 ||| c <<< 8 % 4294967296 ||| d) = 256 * (256 * (256 * a + b) + c) + d := by
  rw [Nat.mod_eq_of_lt (by rw [Nat.shiftLeft_eq]; omega), Nat.mod_eq_of_lt (by rw [Nat.shiftLeft_eq]; omega), Nat.mod_eq_of_lt (by rw [Nat.shiftLeft_eq]; omega)]
  rw [← Nat.shiftLeft_add_eq_or_of_lt (i := 24) (b := b <<< 16) (by rw [Nat.shiftLeft_eq]; omega) a]
  rw [show a <<< 24 + b <<< 16 = (a <<< 8 + b) <<< 16 by simp only [Nat.shiftLeft_eq]; omega]
  rw [← Nat.shiftLeft_add_eq_or_of_lt (i := 16) (b := c <<< 8) (by rw [Nat.shiftLeft_eq]; omega)]
  rw [show (a <<< 8 + b) <<< 16 + c <<< 8 = ((a <<< 8 + b) <<< 8 + c) <<< 8 by simp only [Nat.shiftLeft_eq]; omega]
  rw [← Nat.shiftLeft_add_eq_or_of_lt (i := 8) (b := d) (by omega)]
  simp only [Nat.shiftLeft_eq]; omega
theorem accW_word (p : Bs) (i : Nat) : accW p i 4 = word p i := by
  apply UInt32.toNat_inj.1
  have h0 := (p.getD (4 * i) 0).toNat_lt
  have h1 := (p.getD (4 * i + 1) 0).toNat_lt
  have h2 := (p.getD (4 * i + 2) 0).toNat_lt
  have h3 := (p.getD (4 * i + 3) 0).toNat_lt
  have := or_four h0 h1 h2 h3
  simp only [word, UInt32.toNat_or, UInt32.toNat_shiftLeft, UInt8.toNat_toUInt32]
  simp only [accW, UInt32.toNat_add, UInt32.toNat_mul, UInt8.toNat_toUInt32, Nat.add_zero]
  have e24 : (24 : UInt32).toNat % 32 = 24 := rfl
  have e16 : (16 : UInt32).toNat % 32 = 16 := rfl
  have e8 : (8 : UInt32).toNat % 32 = 8 := rfl
  rw [e24, e16, e8, this]
  have e256 : (256 : UInt32).toNat = 256 := rfl
  have e0 : (0 : UInt32).toNat = 0 := rfl
  rw [e256, e0]
  omega
theorem len_quo {x j : Nat} (hx : x < 2 ^ 64) (hj : j < 8) : UInt8.ofNat (x * 256 ^ j % 2 ^ 64 / 2 ^ 56) = UInt8.ofNat (x / 2 ^ (8 * (7 - j))) := by
  apply UInt8.toNat_inj.1
  simp only [UInt8.toNat_ofNat']
  have : j = 0 ∨ j = 1 ∨ j = 2 ∨ j = 3 ∨ j = 4 ∨ j = 5 ∨ j = 6 ∨ j = 7 := by omega
  rcases this with rfl | rfl | rfl | rfl | rfl | rfl | rfl | rfl <;> simp <;> omega
theorem len_quo2 {x : Nat} (hx : x < 2 ^ 64) : IntKind.u64.wrap (Int.tdiv (x : Int) 72057594037927936) = ((x / 2 ^ 56 : Nat) : Int) := by
  rw [Int.tdiv_eq_ediv_of_nonneg (by omega), IntKind.wrap_u64]; omega
theorem len_mul {x j : Nat} : IntKind.u64.wrap (((x * 256 ^ j % 2 ^ 64 : Nat) : Int) * 256) = ((x * 256 ^ (j + 1) % 2 ^ 64 : Nat) : Int) := by
  have e : x * 256 ^ (j + 1) = x * 256 ^ j * 256 := by rw [Nat.pow_succ, Nat.mul_assoc]
  rw [IntKind.wrap_u64, e]
  generalize x * 256 ^ j = y
  omega
theorem mid_next {A : List UInt32} {i : Nat} (hA : A.length = i) (x y : UInt32) (R : List UInt32) :
    wr ((A ++ x :: R).map w32) (0 + ((i : Int).toNat) * 1) [w32 y] = (A ++ y :: R).map w32 := by
  subst hA
  rw [show 0 + ((A.length : Int).toNat) * 1 = A.length by omega, wr]
  simp [List.drop_append]
theorem outB_get : ∀ (h : List UInt32) (j r : Nat), r < 4 → j < h.length → (outB h)[4 * j + r]? = some ((h.getD j 0 >>> UInt32.ofNat (24 - 8 * r)).toUInt8)
  | [], j, r, _, h => by simp at h
  | x :: l, 0, r, hr, _ => by
    have : r = 0 ∨ r = 1 ∨ r = 2 ∨ r = 3 := by omega
    rcases this with rfl | rfl | rfl | rfl
    · rfl
    · rfl
    · rfl
    · show some x.toUInt8 = some ((x >>> (0 : UInt32)).toUInt8)
      simp
  | x :: l, j + 1, r, hr, hj => by
    have ih := outB_get l j r hr (by simpa using hj)
    have e : outB (x :: l) = [(x >>> 24).toUInt8, (x >>> 16).toUInt8, (x >>> 8).toUInt8, x.toUInt8] ++ outB l := by simp [outB]
    rw [e, List.getElem?_append_right (by simp; omega)]
    simp only [List.length_cons, List.length_nil, List.getD_cons_succ]
    rw [show 4 * (j + 1) + r - (0 + 1 + 1 + 1 + 1) = 4 * j + r by omega]
    exact ih
theorem outB_step {h : List UInt32} {i : Nat} (hh : h.length = 8) (hi : i < 32) :
    wr (((outB h).take i ++ List.replicate (32 - i) 0).map u8v) (0 + ((i : Int).toNat) * 1) [u8v (h.getD (i / 4) 0 >>> UInt32.ofNat (24 - 8 * (i % 4))).toUInt8] = ((outB h).take (i + 1) ++ List.replicate (32 - (i + 1)) 0).map u8v := by
  have hl : ((outB h).take i).length = i := by rw [List.length_take, outB_length]; omega
  have e := wr_next u8v ((outB h).take i) 0 (h.getD (i / 4) 0 >>> UInt32.ofNat (24 - 8 * (i % 4))).toUInt8 32 (by omega)
  rw [hl] at e
  rw [show 0 + ((i : Int).toNat) * 1 = i by omega, e, List.take_add_one]
  have g := outB_get h (i / 4) (i % 4) (by omega) (by omega)
  rw [show 4 * (i / 4) + i % 4 = i by omega] at g
  rw [g]; rfl
theorem ow_cells {e n cap : Nat} {C : Chunks} {a : Option Addr} {S : List UInt32} (h : Ow e 1 C (.slice a n cap) n (S.map w32)) (hn : n ≠ 0) : ∃ b l, a = some ⟨b, 0, none⟩ ∧ (∀ (H : Gh) (L : Chunks), (∀ x ∈ C, x ∈ L) → Cells H L b l) ∧ ∀ j, j < S.length → l[j]? = some (w32 (S.getD j 0)) := by
  obtain ⟨b, l, h1, h2, h3⟩ := h.elem hn
  exact ⟨b, l, h1, h2, fun j hj => by have := h3 j _ (w32_at S hj); simpa using this⟩

theorem known_cc (H : Gh) (L : Chunks) :
    CC Tryd.prog 97 #[] H L (fun v H' L' => ∃ bk bh, v = .tuple #[.slice (some ⟨bh, 0, none⟩) 8 8, .slice (some ⟨bk, 0, none⟩) 64 64] ∧ H = H' ∧ (bk, .cells (roundK.map w32).toArray 135 (0, 0)) :: (bh, .cells (startH.map w32).toArray 135 (0, 0)) :: L = L') := by
  refine cc_of Tryd.func97 rfl (Nat.le_of_ble_eq_true rfl) ?_
  simp only [Tryd.ntmps97]
  refine gc_seq ?_
  refine gc_seqr [(.mv, 0), (.mv, 1)] rfl ?_
  refine gr_rd rfl rfl rfl (rd_assign rfl) ?_
  refine gr_rd rfl rfl rfl (rd_assign rfl) ?_
  refine gr_nil ?_
  refine gk_then ?_
  refine gc_seq ?_
  refine gc_seqr [(.nm, 0), (.mv, 1)] rfl ?_
  refine gr_nx rfl rfl rfl (nx_slice1 (vs := [_, _, _, _, _, _, _, _]) Tryd.underlying131 Tryd.sizeOf135 Tryd.zeroValue135 rfl rfl rfl (by first | exact oneCells_of_all rfl | assumption) rfl rfl) ?_; rintro _ _ _ _ ⟨b4, rfl, rfl, rfl⟩; refine ⟨trivial, ?_⟩
  refine gr_rd rfl rfl rfl (rd_assign rfl) ?_
  refine gr_nil ?_
  refine gk_then ?_
  refine gc_seq ?_
  refine gc_seqr [(.nm, 0), (.mv, 1)] rfl ?_
  refine gr_nx rfl rfl rfl (nx_slice1 (vs := [_, _, _, _, _, _, _, _, _, _, _, _, _, _, _, _, _, _, _, _, _, _, _, _, _, _, _, _, _, _, _, _, _, _, _, _, _, _, _, _, _, _, _, _, _, _, _, _, _, _, _, _, _, _, _, _, _, _, _, _, _, _, _, _]) Tryd.underlying131 Tryd.sizeOf135 Tryd.zeroValue135 rfl rfl rfl (by first | exact oneCells_of_all rfl | assumption) rfl rfl) ?_; rintro _ _ _ _ ⟨b5, rfl, rfl, rfl⟩; refine ⟨trivial, ?_⟩
  refine gr_rd rfl rfl rfl (rd_assign rfl) ?_
  refine gr_nil ?_
  refine gk_then ?_
  refine gc_seq ?_
  refine gc_seqr [(.mv, 0), (.mv, 1), (.mv, 2), (.mv, 3)] rfl ?_
  refine gr_rd rfl rfl rfl (rd_move rfl) ?_
  refine gr_rd rfl rfl rfl (rd_move rfl) ?_
  refine gr_rd rfl rfl rfl (rd_assign rfl) ?_
  refine gr_rd rfl rfl rfl (rd_assign rfl) ?_
  refine gr_nil ?_
  refine gk_then ?_
  refine gc_ret ?_
  refine gk_result (L' := (b5, .cells (roundK.map w32).toArray 135 (0, 0)) :: (b4, .cells (startH.map w32).toArray 135 (0, 0)) :: L) (.inl rfl) _ (res2 rfl rfl rfl) (by repeat (first | exact List.Sublist.refl _ | apply List.Sublist.cons_cons | apply List.Sublist.cons | apply List.Sublist.append (List.Sublist.refl _) | refine List.Sublist.trans ?_ (List.sublist_append_right _ _))) (by first | exact Gh.le_refl _ | assumption | exact Gh.le_trans (by assumption) (by assumption)) ?_
  exact ⟨_, _, rfl, rfl, rfl⟩
set_option maxHeartbeats 4000000 in
theorem rof_cc (H : Gh) (L : Chunks) (s : Bs) (hs : s.length < 549755813888) :
    CC Tryd.prog 77 #[str s] H L (fun v H' L' => v = ag (encId (sha s)) ∧ H = H' ∧ L = L') := by
  have hpl := padded_le s
  have hpm := padded_mod s
  refine cc_of Tryd.func77 rfl (Nat.le_of_ble_eq_true rfl) ?_
  simp only [Tryd.ntmps77]
  refine gc_seq ?_
  refine gc_seqr [(.nm, 0)] rfl ?_
  refine gr_nx rfl rfl rfl (nx_alloc Tryd.zeroValue34 rfl) ?_; rintro _ _ _ _ ⟨b2, rfl, rfl, rfl⟩; refine ⟨trivial, ?_⟩
  refine gr_nil ?_
  refine gk_then ?_
  refine gc_seq ?_
  refine gc_seqr [(.nm, 0), (.mv, 1), (.mv, 2), (.mv, 3), (.mv, 4), (.mv, 5)] rfl ?_
  refine gr_nx rfl rfl rfl (nx_call Tryd.en97 rfl (known_cc _ _)) ?_; rintro v23 H' L' hle ⟨bk, bh, rfl, rfl, rfl⟩; refine ⟨trivial, ?_⟩
  refine gr_rd rfl rfl rfl (rd_move rfl) ?_
  refine gr_rd rfl rfl rfl (rd_extract rfl rfl) ?_
  refine gr_rd rfl rfl rfl (rd_extract rfl rfl) ?_
  refine gr_rd rfl rfl rfl (rd_assign rfl) ?_
  refine gr_rd rfl rfl rfl (rd_assign rfl) ?_
  refine gr_nil ?_
  refine gk_then ?_
  refine gc_seq ?_
  refine gc_seqr [(.mv, 0), (.nm, 1), (.nm, 2), (.nm, 3), (.mv, 4)] rfl ?_
  refine gr_rd rfl rfl rfl (rd_move rfl) ?_
  refine gr_nx rfl rfl rfl (nx_convBytes Tryd.underlying9 Tryd.underlying117 Tryd.underlying5 rfl) ?_; rintro v27 H' L' hle ⟨C0, hO0, _, rfl, rfl⟩; refine ⟨trivial, ?_⟩
  refine gr_nx rfl rfl rfl (nx_slice1 (vs := [_]) Tryd.underlying117 Tryd.sizeOf5 Tryd.zeroValue5 rfl rfl rfl (by first | exact oneCells_of_all rfl | assumption) rfl rfl) ?_; rintro _ _ _ _ ⟨b28, rfl, rfl, rfl⟩; refine ⟨trivial, ?_⟩
  refine gr_nx rfl rfl rfl (nx_append Tryd.app117_117 rfl rfl hO0 (by repeat (first | exact Pick.here | exact Pick.one | apply Pick.there | apply Pick.app)) (src_one rfl (oneCells_of_all rfl) List.mem_cons_self) (by omega) (by omega)) ?_; rintro v29 H' L' hle ⟨C1, hO1, _, rfl, rfl⟩; refine ⟨trivial, ?_⟩
  refine gr_drop (L' := C1 ++ (bk, .cells (roundK.map w32).toArray 135 (0, 0)) :: (bh, .cells (startH.map w32).toArray 135 (0, 0)) :: (b2, .cells (List.replicate 32 (u8v 0)).toArray 34 (0, 0)) :: L) (by repeat (first | exact List.Sublist.refl _ | apply List.Sublist.cons_cons | apply List.Sublist.cons | apply List.Sublist.append (List.Sublist.refl _) | refine List.Sublist.trans ?_ (List.sublist_append_right _ _))) ?_
  refine gr_rd rfl rfl rfl (rd_assign rfl) ?_
  refine gr_nil ?_
  refine gk_then ?_
  refine gc_seq ?_
  refine gc_block ?_
  refine gc_loop (fun t : Nat × Bs × Value × Chunks => [(0, str s), (2, pt b2 0), (3, .slice (some ⟨bh, 0, none⟩) 8 8), (4, .slice (some ⟨bk, 0, none⟩) 64 64), (5, t.2.2.1)]) (fun t H1 L1 => H = H1 ∧ L1 = t.2.2.2 ++ (bk, .cells (roundK.map w32).toArray 135 (0, 0)) :: (bh, .cells (startH.map w32).toArray 135 (0, 0)) :: (b2, .cells (List.replicate 32 (u8v 0)).toArray 34 (0, 0)) :: L ∧ Ow 5 1 t.2.2.2 t.2.2.1 t.2.1.length (t.2.1.map u8v) ∧ padTo t.1 t.2.1 = padTo 64 (s ++ [128]) ∧ gap t.2.1.length ≤ t.1 ∧ t.1 ≤ 64 ∧ t.2.1.length ≤ s.length + 1 + (64 - t.1)) (fun t => gap t.2.1.length) ((64, s ++ [128], v29, C1)) ?_ (by repeat (first | exact Subs.nil | refine Subs.cons rfl ?_)) ?_
  · exact ⟨rfl, rfl, by simpa [u8v] using hO1, rfl, Nat.le_of_lt (gap_lt _), Nat.le_refl _, by simp⟩
  · rintro ⟨k, bs, vb, C⟩ H1 L1 ⟨rfl, rfl, hO, hd, hg, hk64, hl⟩
    simp only at hO hd hg hk64 hl
    show GC _ _ _ _ [(0, str s), (2, pt b2 0), (3, .slice (some ⟨bh, 0, none⟩) 8 8), (4, .slice (some ⟨bk, 0, none⟩) 64 64), (5, vb)] H (C ++ (bk, .cells (roundK.map w32).toArray 135 (0, 0)) :: (bh, .cells (startH.map w32).toArray 135 (0, 0)) :: (b2, .cells (List.replicate 32 (u8v 0)).toArray 34 (0, 0)) :: L)
    obtain ⟨A, cap, rfl, hcap⟩ := hO.slice
    refine gc_seq ?_
    refine gc_seq ?_
    refine gc_seqr [(.mv, 0), (.mv, 1), (.mv, 2), (.mv, 3)] rfl ?_
    refine gr_rd rfl rfl rfl (rd_move rfl) ?_
    refine gr_rd rfl rfl rfl (rd_lenS Tryd.underlying117 rfl) ?_
    refine gr_rd rfl rfl rfl (rd_rem rfl rfl (by omega) (r := ((bs.length % 64 : Nat) : Int)) (by rw [Int.tmod_eq_emod_of_nonneg (by omega)]; omega)) ?_
    refine gr_rd rfl rfl rfl (rd_neq rfl rfl) ?_
    refine gr_nil ?_
    refine gk_then ?_
    refine gc_cond rfl (fun hc0 => ?_) (fun hc0 => ?_)
    · have hc : bs.length % 64 ≠ 56 := by simp at hc0; omega
      have hgs := gap_step hc
      have hgl := gap_lt bs.length
      refine gc_skip ?_
      refine gk_then ?_
      refine gc_block ?_
      refine gc_seqr [(.mv, 0), (.nm, 1), (.nm, 2), (.mv, 3)] rfl ?_
      refine gr_rd rfl rfl rfl (rd_move rfl) ?_
      refine gr_nx rfl rfl rfl (nx_slice1 (vs := [_]) Tryd.underlying117 Tryd.sizeOf5 Tryd.zeroValue5 rfl rfl rfl (by first | exact oneCells_of_all rfl | assumption) rfl rfl) ?_; rintro _ _ _ _ ⟨b35, rfl, rfl, rfl⟩; refine ⟨trivial, ?_⟩
      refine gr_nx rfl rfl rfl (nx_append Tryd.app117_117 rfl rfl hO (by repeat (first | exact Pick.here | exact Pick.one | apply Pick.there | apply Pick.app)) (src_one rfl (oneCells_of_all rfl) List.mem_cons_self) (by omega) (by omega)) ?_; rintro v36 H' L' hle ⟨C2, hO2, _, rfl, rfl⟩; refine ⟨trivial, ?_⟩
      refine gr_drop (L' := C2 ++ (bk, .cells (roundK.map w32).toArray 135 (0, 0)) :: (bh, .cells (startH.map w32).toArray 135 (0, 0)) :: (b2, .cells (List.replicate 32 (u8v 0)).toArray 34 (0, 0)) :: L) (by repeat (first | exact List.Sublist.refl _ | apply List.Sublist.cons_cons | apply List.Sublist.cons | apply List.Sublist.append (List.Sublist.refl _) | refine List.Sublist.trans ?_ (List.sublist_append_right _ _))) ?_
      refine gr_rd rfl rfl rfl (rd_assign rfl) ?_
      refine gr_nil ?_
      refine gk_inBlock ?_
      refine gk_round (k - 1, bs ++ [0], _, C2) ?_ ?_ (by repeat (first | exact Subs.nil | refine Subs.cons rfl ?_))
      · show gap (bs ++ [0]).length < gap bs.length
        rw [List.length_append, List.length_singleton]; omega
      · refine ⟨rfl, rfl, by simpa [u8v] using hO2, ?_, ?_, by simp only; omega, ?_⟩
        · rw [← hd, show k = (k - 1) + 1 by omega, padTo_step hc]; rfl
        · simp only [List.length_append, List.length_singleton]; omega
        · simp only [List.length_append, List.length_singleton]; omega
    · have hc : bs.length % 64 = 56 := by simp at hc0; omega
      rw [padTo_done hc] at hd
      have hP : padded s = bs ++ lenB s.length := by rw [padded, ← hd]
      refine gc_exit ?_
      refine gk_exit_then ?_
      refine gk_exit_then ?_
      refine gk_here ?_
      refine gk_then ?_
      refine gc_seq ?_
      refine gc_seqr [(.mv, 0), (.mv, 1), (.mv, 2), (.mv, 3), (.mv, 4)] rfl ?_
      refine gr_rd rfl rfl rfl (rd_move rfl) ?_
      refine gr_rd rfl rfl rfl (rd_lenL Tryd.underlying9 rfl) ?_
      refine gr_rd rfl rfl rfl (rd_convInt Tryd.underlying3 Tryd.underlying134 rfl (len_u64 (by omega))) ?_
      refine gr_rd rfl rfl rfl (rd_mul rfl rfl len_u64m) ?_
      refine gr_rd rfl rfl rfl (rd_assign rfl) ?_
      refine gr_nil ?_
      refine gk_then ?_
      refine gc_seq ?_
      refine gc_seq ?_
      refine gc_seqr [(.mv, 0)] rfl ?_
      refine gr_rd rfl rfl rfl (rd_assign rfl) ?_
      refine gr_nil ?_
      refine gk_then ?_
      refine gc_block ?_
      refine gc_loop (fun t : Nat × Value × Chunks => [(2, pt b2 0), (3, .slice (some ⟨bh, 0, none⟩) 8 8), (4, .slice (some ⟨bk, 0, none⟩) 64 64), (5, t.2.1), (6, .int .u64 ((s.length * 8 % 2 ^ 64 * 256 ^ t.1 % 2 ^ 64 : Nat) : Int)), (7, i64 t.1)]) (fun t H1 L1 => H = H1 ∧ L1 = t.2.2 ++ (bk, .cells (roundK.map w32).toArray 135 (0, 0)) :: (bh, .cells (startH.map w32).toArray 135 (0, 0)) :: (b2, .cells (List.replicate 32 (u8v 0)).toArray 34 (0, 0)) :: L ∧ t.1 ≤ 8 ∧ Ow 5 1 t.2.2 t.2.1 (bs.length + t.1) ((bs ++ (lenB s.length).take t.1).map u8v)) (fun t => 8 - t.1) ((0, .slice A bs.length cap, C)) ?_ (by refine Subs.cons rfl (Subs.cons rfl (Subs.cons rfl (Subs.cons rfl (Subs.cons ?_ (Subs.cons rfl Subs.nil))))); show some (Value.int .u64 ((s.length * 8 % 2 ^ 64 : Nat) : Int)) = some (Value.int .u64 ((s.length * 8 % 2 ^ 64 * 256 ^ 0 % 2 ^ 64 : Nat) : Int)); rw [Nat.pow_zero, Nat.mul_one, Nat.mod_mod]) ?_
      · exact ⟨rfl, rfl, Nat.zero_le _, by simpa using hO⟩
      · rintro ⟨j, vb, C3⟩ H1 L1 ⟨rfl, rfl, hj, hO3⟩
        simp only at hj hO3
        show GC _ _ _ _ [(2, pt b2 0), (3, .slice (some ⟨bh, 0, none⟩) 8 8), (4, .slice (some ⟨bk, 0, none⟩) 64 64), (5, vb), (6, .int .u64 ((s.length * 8 % 2 ^ 64 * 256 ^ j % 2 ^ 64 : Nat) : Int)), (7, i64 j)] H (C3 ++ (bk, .cells (roundK.map w32).toArray 135 (0, 0)) :: (bh, .cells (startH.map w32).toArray 135 (0, 0)) :: (b2, .cells (List.replicate 32 (u8v 0)).toArray 34 (0, 0)) :: L)
        refine gc_seq ?_
        refine gc_seq ?_
        refine gc_seqr [(.mv, 0), (.mv, 1)] rfl ?_
        refine gr_rd rfl rfl rfl (rd_move rfl) ?_
        refine gr_rd rfl rfl rfl (rd_lss rfl rfl) ?_
        refine gr_nil ?_
        refine gk_then ?_
        refine gc_cond rfl (fun hc1 => ?_) (fun hc1 => ?_)
        · have hj8 : j < 8 := by simp at hc1; omega
          refine gc_skip ?_
          refine gk_then ?_
          refine gc_seq ?_
          refine gc_block ?_
          refine gc_seq ?_
          refine gc_seqr [(.mv, 0), (.mv, 1), (.mv, 2), (.mv, 3), (.nm, 4), (.nm, 5), (.mv, 6)] rfl ?_
          refine gr_rd rfl rfl rfl (rd_move rfl) ?_
          refine gr_rd rfl rfl rfl (rd_move rfl) ?_
          refine gr_rd rfl rfl rfl (rd_quo rfl rfl (by decide) (len_quo2 (Nat.mod_lt _ (by decide)))) ?_
          refine gr_rd rfl rfl rfl (rd_convInt Tryd.underlying134 Tryd.underlying5 rfl (u8_of _)) ?_
          refine gr_nx rfl rfl rfl (nx_slice1 (vs := [_]) Tryd.underlying117 Tryd.sizeOf5 Tryd.zeroValue5 rfl rfl rfl (by first | exact oneCells_of_all rfl | assumption) rfl rfl) ?_; rintro _ _ _ _ ⟨b49, rfl, rfl, rfl⟩; refine ⟨trivial, ?_⟩
          refine gr_nx rfl rfl rfl (nx_append Tryd.app117_117 rfl rfl hO3 (by repeat (first | exact Pick.here | exact Pick.one | apply Pick.there | apply Pick.app)) (src_one rfl (oneCells_of_all rfl) List.mem_cons_self) (by omega) (by omega)) ?_; rintro v50 H' L' hle ⟨C4, hO4, _, rfl, rfl⟩; refine ⟨trivial, ?_⟩
          refine gr_drop (L' := C4 ++ (bk, .cells (roundK.map w32).toArray 135 (0, 0)) :: (bh, .cells (startH.map w32).toArray 135 (0, 0)) :: (b2, .cells (List.replicate 32 (u8v 0)).toArray 34 (0, 0)) :: L) (by repeat (first | exact List.Sublist.refl _ | apply List.Sublist.cons_cons | apply List.Sublist.cons | apply List.Sublist.append (List.Sublist.refl _) | refine List.Sublist.trans ?_ (List.sublist_append_right _ _))) ?_
          refine gr_rd rfl rfl rfl (rd_assign rfl) ?_
          refine gr_nil ?_
          refine gk_then ?_
          refine gc_seqr [(.mv, 0), (.mv, 1), (.mv, 2)] rfl ?_
          refine gr_rd rfl rfl rfl (rd_move rfl) ?_
          refine gr_rd rfl rfl rfl (rd_mul rfl rfl len_mul) ?_
          refine gr_rd rfl rfl rfl (rd_assign rfl) ?_
          refine gr_nil ?_
          refine gk_inBlock ?_
          refine gk_then ?_
          refine gc_seqr [(.mv, 0), (.mv, 1), (.mv, 2)] rfl ?_
          refine gr_rd rfl rfl rfl (rd_move rfl) ?_
          (first | refine gr_rd rfl rfl rfl (rd_add rfl rfl (IntWalk.i64_in _ (by omega))) ?_ | refine gr_rd rfl rfl rfl (rd_add rfl rfl rfl) ?_)
          refine gr_rd rfl rfl rfl (rd_assign rfl) ?_
          refine gr_nil ?_
          refine gk_round (j + 1, _, C4) ?_ ?_ (by repeat (first | exact Subs.nil | refine Subs.cons rfl ?_))
          · show 8 - (j + 1) < 8 - j
            omega
          · refine ⟨rfl, rfl, by simp only; omega, ?_⟩
            simp only
            rw [lenB_take hj8, ← len_quo (Nat.mod_lt _ (by decide)) hj8]
            simpa [u8v, Nat.add_assoc] using hO4
        · have hj8 : j = 8 := by simp at hc1; omega
          subst hj8
          rw [List.take_of_length_le (by rw [lenB_length]; omega), ← hP] at hO3
          have hPl : (padded s).length = bs.length + 8 := by rw [hP, List.length_append, lenB_length]
          rw [← hPl] at hO3
          obtain ⟨A2, cap2, rfl, hcap2⟩ := hO3.slice
          obtain ⟨bb, lb, rfl, hcb, hsb⟩ := hO3.elem (by omega)
          refine gc_exit ?_
          refine gk_exit_then ?_
          refine gk_exit_then ?_
          refine gk_here ?_
          refine gk_then ?_
          refine gc_seq ?_
          refine gc_seq ?_
          refine gc_seqr [(.mv, 0)] rfl ?_
          refine gr_rd rfl rfl rfl (rd_assign rfl) ?_
          refine gr_nil ?_
          refine gk_then ?_
          refine gc_block ?_
          refine gc_loop (fun t : Nat × Nat × List UInt32 => [(2, pt b2 0), (3, .slice (some ⟨bh, 0, none⟩) 8 8), (4, .slice (some ⟨bk, 0, none⟩) 64 64), (5, .slice (some ⟨bb, 0, none⟩) (padded s).length cap2), (8, i64 ((64 * t.1 : Nat) : Int))]) (fun t H1 L1 => H = H1 ∧ L1 = C3 ++ (bk, .cells (roundK.map w32).toArray 135 (0, 0)) :: (bh, .cells (t.2.2.map w32).toArray 135 (0, 0)) :: (b2, .cells (List.replicate 32 (u8v 0)).toArray 34 (0, 0)) :: L ∧ 64 * t.1 ≤ (padded s).length ∧ t.2.2.length = 8 ∧ (padded s).length - 64 * t.1 ≤ t.2.1 ∧ blocksH t.2.1 t.2.2 ((padded s).drop (64 * t.1)) = blocksH (padded s).length startH (padded s)) (fun t => (padded s).length - 64 * t.1) ((0, (padded s).length, startH)) ?_ (by repeat (first | exact Subs.nil | refine Subs.cons rfl ?_)) ?_
          · exact ⟨rfl, rfl, Nat.zero_le _, rfl, Nat.le_refl _, rfl⟩
          · rintro ⟨k, fu, hv⟩ H1 L1 ⟨rfl, rfl, hk, hv8, hfu, hbl⟩
            simp only at hk hv8 hfu hbl
            show GC _ _ _ _ [(2, pt b2 0), (3, .slice (some ⟨bh, 0, none⟩) 8 8), (4, .slice (some ⟨bk, 0, none⟩) 64 64), (5, .slice (some ⟨bb, 0, none⟩) (padded s).length cap2), (8, i64 ((64 * k : Nat) : Int))] H (C3 ++ (bk, .cells (roundK.map w32).toArray 135 (0, 0)) :: (bh, .cells (hv.map w32).toArray 135 (0, 0)) :: (b2, .cells (List.replicate 32 (u8v 0)).toArray 34 (0, 0)) :: L)
            refine gc_seq ?_
            refine gc_seq ?_
            refine gc_seqr [(.mv, 0), (.mv, 1), (.mv, 2), (.mv, 3)] rfl ?_
            refine gr_rd rfl rfl rfl (rd_move rfl) ?_
            refine gr_rd rfl rfl rfl (rd_move rfl) ?_
            refine gr_rd rfl rfl rfl (rd_lenS Tryd.underlying117 rfl) ?_
            refine gr_rd rfl rfl rfl (rd_lss rfl rfl) ?_
            refine gr_nil ?_
            refine gk_then ?_
            refine gc_cond rfl (fun hc2 => ?_) (fun hc2 => ?_)
            · have hk64 : 64 * k < (padded s).length := by simp at hc2; omega
              have hne : (padded s).drop (64 * k) ≠ [] := by intro e; have := congrArg List.length e; simp at this; omega
              obtain ⟨p, hp⟩ : ∃ p, ((padded s).drop (64 * k)).take 64 = p := ⟨_, rfl⟩
              have hpl64 : p.length = 64 := by rw [← hp]; simp; omega
              have hseg : Seg lb (64 * k) (p.map u8v) := by
                rw [← hp]
                intro j v hj
                have hj2 : j < 64 := by have := (List.getElem?_eq_some_iff.1 hj).1; simp at this; omega
                have h2 := hsb (64 * k + j) v (by simpa [List.getElem?_take, hj2] using hj)
                simpa using h2
              refine gc_skip ?_
              refine gk_then ?_
              refine gc_seq ?_
              refine gc_block ?_
              refine gc_seq ?_
              refine gc_seqr [(.nm, 0), (.mv, 1)] rfl ?_
              refine gr_nx rfl rfl rfl (nx_make Tryd.app131_131 rfl rfl rfl (n := 64) (by decide) (by decide) (by decide)) ?_; rintro v59 H' L' hle ⟨bw, rfl, rfl, rfl⟩; refine ⟨trivial, ?_⟩
              refine gr_rd rfl rfl rfl (rd_assign rfl) ?_
              refine gr_nil ?_
              refine gk_then ?_
              refine gc_seq ?_
              refine gc_seq ?_
              refine gc_seqr [(.mv, 0)] rfl ?_
              refine gr_rd rfl rfl rfl (rd_assign rfl) ?_
              refine gr_nil ?_
              refine gk_then ?_
              refine gc_block ?_
              refine gc_loop (fun i : Nat => [(2, pt b2 0), (3, .slice (some ⟨bh, 0, none⟩) 8 8), (4, .slice (some ⟨bk, 0, none⟩) 64 64), (5, .slice (some ⟨bb, 0, none⟩) (padded s).length cap2), (8, i64 ((64 * k : Nat) : Int)), (9, .slice (some ⟨bw, 0, none⟩) 64 64), (10, i64 i)]) (fun i H1 L1 => H = H1 ∧ (bw, .cells ((wordsTo p i ++ List.replicate (64 - i) 0).map w32).toArray 135 (0, 0)) :: (C3 ++ (bk, .cells (roundK.map w32).toArray 135 (0, 0)) :: (bh, .cells (hv.map w32).toArray 135 (0, 0)) :: (b2, .cells (List.replicate 32 (u8v 0)).toArray 34 (0, 0)) :: L) = L1 ∧ i ≤ 16) (fun i => 16 - i) (0) ?_ (by repeat (first | exact Subs.nil | refine Subs.cons rfl ?_)) ?_
              · exact ⟨rfl, rfl, Nat.zero_le _⟩
              · rintro i H1 L1 ⟨rfl, rfl, hi⟩
                refine gc_seq ?_
                refine gc_seq ?_
                refine gc_seqr [(.mv, 0), (.mv, 1)] rfl ?_
                refine gr_rd rfl rfl rfl (rd_move rfl) ?_
                refine gr_rd rfl rfl rfl (rd_lss rfl rfl) ?_
                refine gr_nil ?_
                refine gk_then ?_
                refine gc_cond rfl (fun hc3 => ?_) (fun hc3 => ?_)
                · have hi16 : i < 16 := by simp at hc3; omega
                  have hrep : wordsTo p i ++ List.replicate (64 - i) 0 = wordsTo p i ++ accW p i 0 :: List.replicate (64 - (i + 1)) 0 := by
                    rw [show 64 - i = (64 - (i + 1)) + 1 by omega, List.replicate_succ]; rfl
                  rw [hrep]
                  refine gc_skip ?_
                  refine gk_then ?_
                  refine gc_seq ?_
                  refine gc_block ?_
                  refine gc_seq ?_
                  refine gc_seqr [(.mv, 0)] rfl ?_
                  refine gr_rd rfl rfl rfl (rd_assign rfl) ?_
                  refine gr_nil ?_
                  refine gk_then ?_
                  refine gc_block ?_
                  refine gc_loop (fun j : Nat => [(2, pt b2 0), (3, .slice (some ⟨bh, 0, none⟩) 8 8), (4, .slice (some ⟨bk, 0, none⟩) 64 64), (5, .slice (some ⟨bb, 0, none⟩) (padded s).length cap2), (8, i64 ((64 * k : Nat) : Int)), (9, .slice (some ⟨bw, 0, none⟩) 64 64), (10, i64 i), (11, i64 j)]) (fun j H1 L1 => H = H1 ∧ (bw, .cells ((wordsTo p i ++ accW p i j :: List.replicate (64 - (i + 1)) 0).map w32).toArray 135 (0, 0)) :: (C3 ++ (bk, .cells (roundK.map w32).toArray 135 (0, 0)) :: (bh, .cells (hv.map w32).toArray 135 (0, 0)) :: (b2, .cells (List.replicate 32 (u8v 0)).toArray 34 (0, 0)) :: L) = L1 ∧ j ≤ 4) (fun j => 4 - j) (0) ?_ (by repeat (first | exact Subs.nil | refine Subs.cons rfl ?_)) ?_
                  · exact ⟨rfl, rfl, Nat.zero_le _⟩
                  · rintro j H1 L1 ⟨rfl, rfl, hj⟩
                    refine gc_seq ?_
                    refine gc_seq ?_
                    refine gc_seqr [(.mv, 0), (.mv, 1)] rfl ?_
                    refine gr_rd rfl rfl rfl (rd_move rfl) ?_
                    refine gr_rd rfl rfl rfl (rd_lss rfl rfl) ?_
                    refine gr_nil ?_
                    refine gk_then ?_
                    refine gc_cond rfl (fun hc4 => ?_) (fun hc4 => ?_)
                    · have hj4 : j < 4 := by simp at hc4; omega
                      have hcl : Cells H ((bw, .cells ((wordsTo p i ++ accW p i j :: List.replicate (64 - (i + 1)) 0).map w32).toArray 135 (0, 0)) :: (C3 ++ (bk, .cells (roundK.map w32).toArray 135 (0, 0)) :: (bh, .cells (hv.map w32).toArray 135 (0, 0)) :: (b2, .cells (List.replicate 32 (u8v 0)).toArray 34 (0, 0)) :: L)) bb lb := hcb _ _ (fun x hx => List.mem_cons_of_mem _ (List.mem_append_left _ hx))
                      refine gc_skip ?_
                      refine gk_then ?_
                      refine gc_seq ?_
                      refine gc_block ?_
                      refine gc_draw Tryd.mixed [(.mv, 0), (.mv, 1), (.mv, 2), (.mv, 3), (.mv, 4), (.mv, 5), (.mv, 6), (.mv, 7), (.mv, 8), (.mv, 9), (.mv, 10), (.mv, 11), (.mv, 12), (.mv, 13), (.mv, 14), (.mv, 15), (.mv, 16), (.mv, 17), (.mv, 18), (.fin, 19)] (by decide +kernel) _ (List.Sublist.refl _) ?_
                      refine gr_rd rfl rfl rfl (rd_move rfl) ?_
                      refine gr_rd rfl rfl rfl (rd_move rfl) ?_
                      refine gr_rd rfl rfl rfl (rd_move rfl) ?_
                      refine gr_rd rfl rfl rfl (rd_move rfl) ?_
                      refine gr_rd rfl rfl rfl (rd_indexS Tryd.underlying131 Tryd.sizeOf135 rfl rfl (by first | rfl | assumption) (by omega) (by omega)) ?_
                      refine gr_rd rfl rfl rfl (rd_load1 Tryd.to135 rfl ⟨_, _, .inr List.mem_cons_self⟩ (v := w32 (accW p i j)) (by rw [show 0 + ((i : Int).toNat) * 1 = i by omega, List.map_append, List.getElem?_append_right (by simp [wordsTo_length])]; simp [wordsTo_length])) ?_
                      refine gr_rd rfl rfl rfl (rd_mul32 (a := 256) rfl rfl rfl) ?_
                      refine gr_rd rfl rfl rfl (rd_move rfl) ?_
                      refine gr_rd rfl rfl rfl (rd_move rfl) ?_
                      refine gr_rd rfl rfl rfl (rd_move rfl) ?_
                      (first | refine gr_rd rfl rfl rfl (rd_mul rfl rfl (IntWalk.i64_in _ (by omega))) ?_ | refine gr_rd rfl rfl rfl (rd_mul rfl rfl rfl) ?_)
                      (first | refine gr_rd rfl rfl rfl (rd_add rfl rfl (IntWalk.i64_in _ (by omega))) ?_ | refine gr_rd rfl rfl rfl (rd_add rfl rfl rfl) ?_)
                      refine gr_rd rfl rfl rfl (rd_move rfl) ?_
                      (first | refine gr_rd rfl rfl rfl (rd_add rfl rfl (IntWalk.i64_in _ (by omega))) ?_ | refine gr_rd rfl rfl rfl (rd_add rfl rfl rfl) ?_)
                      refine gr_rd rfl rfl rfl (rd_indexS Tryd.underlying117 Tryd.sizeOf5 rfl rfl (by first | rfl | assumption) (by omega) (by omega)) ?_
                      refine gr_rd rfl rfl rfl (rd_load1 Tryd.to5 rfl hcl (v := u8v (p.getD (4 * i + j) 0)) (by have h := byte_at hseg (j := 4 * i + j) (i := ((4 * i + j : Nat) : Int)) rfl (by omega); rw [← h]; congr 1; omega)) ?_
                      refine gr_rd rfl rfl rfl (rd_conv8_32 Tryd.underlying5 Tryd.underlying135 rfl) ?_
                      (first | refine gr_rd rfl rfl rfl (rd_add32 rfl rfl) ?_ | refine gr_rd rfl rfl rfl (rd_add rfl rfl rfl) ?_)
                      refine gr_rd rfl rfl rfl (rd_indexS Tryd.underlying131 Tryd.sizeOf135 rfl rfl (by first | rfl | assumption) (by omega) (by omega)) ?_
                      refine gr_fin0 rfl rfl (nx_store (vs := [_]) Tryd.sizeOf135 rfl rfl rfl rfl Upd.here (by simp [wordsTo_length] <;> omega) (oneCells_of_all rfl)) ?_; rintro _ _ _ _ ⟨rfl, rfl, rfl⟩
                      refine gr_nil ?_
                      refine gk_inBlock ?_
                      refine gk_then ?_
                      refine gc_seqr [(.mv, 0), (.mv, 1), (.mv, 2)] rfl ?_
                      refine gr_rd rfl rfl rfl (rd_move rfl) ?_
                      (first | refine gr_rd rfl rfl rfl (rd_add rfl rfl (IntWalk.i64_in _ (by omega))) ?_ | refine gr_rd rfl rfl rfl (rd_add rfl rfl rfl) ?_)
                      refine gr_rd rfl rfl rfl (rd_assign rfl) ?_
                      refine gr_nil ?_
                      refine gk_round (j + 1) (by omega) ⟨rfl, ?_, by omega⟩ (by repeat (first | exact Subs.nil | refine Subs.cons rfl ?_))
                      rw [mid_next (wordsTo_length p i)]
                      rfl
                    · have hj4 : j = 4 := by simp at hc4; omega
                      refine gc_exit ?_
                      refine gk_exit_then ?_
                      refine gk_exit_then ?_
                      refine gk_here ?_
                      refine gk_inBlock ?_
                      refine gk_then ?_
                      refine gc_seqr [(.mv, 0), (.mv, 1), (.mv, 2)] rfl ?_
                      refine gr_rd rfl rfl rfl (rd_move rfl) ?_
                      (first | refine gr_rd rfl rfl rfl (rd_add rfl rfl (IntWalk.i64_in _ (by omega))) ?_ | refine gr_rd rfl rfl rfl (rd_add rfl rfl rfl) ?_)
                      refine gr_rd rfl rfl rfl (rd_assign rfl) ?_
                      refine gr_nil ?_
                      refine gk_round (i + 1) (by omega) ⟨rfl, ?_, by omega⟩ (by repeat (first | exact Subs.nil | refine Subs.cons rfl ?_))
                      rw [hj4, accW_word, show wordsTo p (i + 1) = wordsTo p i ++ [if i < 16 then word p i else nextW (wordsTo p i) i] from rfl, if_pos hi16, List.append_assoc]
                      rfl
                · have hi16 : i = 16 := by simp at hc3; omega
                  subst hi16
                  refine gc_exit ?_
                  refine gk_exit_then ?_
                  refine gk_exit_then ?_
                  refine gk_here ?_
                  refine gk_then ?_
                  refine gc_seq ?_
                  refine gc_seq ?_
                  refine gc_seqr [(.mv, 0)] rfl ?_
                  refine gr_rd rfl rfl rfl (rd_assign rfl) ?_
                  refine gr_nil ?_
                  refine gk_then ?_
                  refine gc_block ?_
                  refine gc_loop (fun i : Nat => [(2, pt b2 0), (3, .slice (some ⟨bh, 0, none⟩) 8 8), (4, .slice (some ⟨bk, 0, none⟩) 64 64), (5, .slice (some ⟨bb, 0, none⟩) (padded s).length cap2), (8, i64 ((64 * k : Nat) : Int)), (9, .slice (some ⟨bw, 0, none⟩) 64 64), (12, i64 i)]) (fun i H1 L1 => H = H1 ∧ (bw, .cells ((wordsTo p i ++ List.replicate (64 - i) 0).map w32).toArray 135 (0, 0)) :: (C3 ++ (bk, .cells (roundK.map w32).toArray 135 (0, 0)) :: (bh, .cells (hv.map w32).toArray 135 (0, 0)) :: (b2, .cells (List.replicate 32 (u8v 0)).toArray 34 (0, 0)) :: L) = L1 ∧ 16 ≤ i ∧ i ≤ 64) (fun i => 64 - i) (16) ?_ (by repeat (first | exact Subs.nil | refine Subs.cons rfl ?_)) ?_
                  · exact ⟨rfl, rfl, Nat.le_refl _, by decide⟩
                  · rintro k5 H1 L1 ⟨rfl, rfl, hk16, hk5⟩
                    refine gc_seq ?_
                    refine gc_seq ?_
                    refine gc_seqr [(.mv, 0), (.mv, 1)] rfl ?_
                    refine gr_rd rfl rfl rfl (rd_move rfl) ?_
                    refine gr_rd rfl rfl rfl (rd_lss rfl rfl) ?_
                    refine gr_nil ?_
                    refine gk_then ?_
                    refine gc_cond rfl (fun hc5 => ?_) (fun hc5 => ?_)
                    · have hk64b : k5 < 64 := by simp at hc5; omega
                      refine gc_skip ?_
                      refine gk_then ?_
                      refine gc_seq ?_
                      refine gc_block ?_
                      refine gc_seq ?_
                      refine gc_draw Tryd.mixed [(.mv, 0), (.mv, 1), (.mv, 2), (.mv, 3), (.mv, 4), (.mv, 5), (.mv, 6), (.mv, 7), (.mv, 8), (.mv, 9), (.mv, 10), (.mv, 11)] (by decide +kernel) _ (List.Sublist.refl _) ?_
                      refine gr_rd rfl rfl rfl (rd_move rfl) ?_
                      refine gr_rd rfl rfl rfl (rd_move rfl) ?_
                      (first | refine gr_rd rfl rfl rfl (rd_sub rfl rfl (IntWalk.i64_in _ (by omega))) ?_ | refine gr_rd rfl rfl rfl (rd_sub rfl rfl rfl) ?_)
                      refine gr_rd rfl rfl rfl (rd_indexS Tryd.underlying131 Tryd.sizeOf135 rfl rfl (by first | rfl | assumption) (by omega) (by omega)) ?_
                      refine gr_rd rfl rfl rfl (rd_load1 Tryd.to135 rfl ⟨_, _, .inr List.mem_cons_self⟩ (words_at (j := k5 - 15) (by omega) (by omega))) ?_
                      refine gr_rd rfl rfl rfl (rd_move rfl) ?_
                      refine gr_rd rfl rfl rfl (rd_move rfl) ?_
                      (first | refine gr_rd rfl rfl rfl (rd_sub rfl rfl (IntWalk.i64_in _ (by omega))) ?_ | refine gr_rd rfl rfl rfl (rd_sub rfl rfl rfl) ?_)
                      refine gr_rd rfl rfl rfl (rd_indexS Tryd.underlying131 Tryd.sizeOf135 rfl rfl (by first | rfl | assumption) (by omega) (by omega)) ?_
                      refine gr_rd rfl rfl rfl (rd_load1 Tryd.to135 rfl ⟨_, _, .inr List.mem_cons_self⟩ (words_at (j := k5 - 2) (by omega) (by omega))) ?_
                      refine gr_rd rfl rfl rfl (rd_assign rfl) ?_
                      refine gr_rd rfl rfl rfl (rd_assign rfl) ?_
                      refine gr_nil ?_
                      refine gk_then ?_
                      refine gc_draw Tryd.mixed [(.mv, 0), (.mv, 1), (.mv, 2), (.mv, 3), (.mv, 4), (.mv, 5), (.mv, 6), (.mv, 7), (.mv, 8), (.mv, 9), (.mv, 10), (.mv, 11), (.mv, 12), (.mv, 13), (.mv, 15), (.mv, 18), (.mv, 19), (.mv, 22), (.mv, 24), (.mv, 27), (.mv, 28), (.nm, 14), (.nm, 16), (.mv, 17), (.mv, 20), (.mv, 21), (.nm, 23), (.nm, 25), (.mv, 26), (.mv, 29), (.mv, 30), (.mv, 31), (.fin, 32)] (by decide +kernel) _ (List.Sublist.refl _) ?_
                      refine gr_rd rfl rfl rfl (rd_move rfl) ?_
                      refine gr_rd rfl rfl rfl (rd_move rfl) ?_
                      refine gr_rd rfl rfl rfl (rd_move rfl) ?_
                      refine gr_rd rfl rfl rfl (rd_move rfl) ?_
                      (first | refine gr_rd rfl rfl rfl (rd_sub rfl rfl (IntWalk.i64_in _ (by omega))) ?_ | refine gr_rd rfl rfl rfl (rd_sub rfl rfl rfl) ?_)
                      refine gr_rd rfl rfl rfl (rd_indexS Tryd.underlying131 Tryd.sizeOf135 rfl rfl (by first | rfl | assumption) (by omega) (by omega)) ?_
                      refine gr_rd rfl rfl rfl (rd_load1 Tryd.to135 rfl ⟨_, _, .inr List.mem_cons_self⟩ (words_at (j := k5 - 16) (by omega) (by omega))) ?_
                      refine gr_rd rfl rfl rfl (rd_move rfl) ?_
                      refine gr_rd rfl rfl rfl (rd_move rfl) ?_
                      (first | refine gr_rd rfl rfl rfl (rd_sub rfl rfl (IntWalk.i64_in _ (by omega))) ?_ | refine gr_rd rfl rfl rfl (rd_sub rfl rfl rfl) ?_)
                      refine gr_rd rfl rfl rfl (rd_indexS Tryd.underlying131 Tryd.sizeOf135 rfl rfl (by first | rfl | assumption) (by omega) (by omega)) ?_
                      refine gr_rd rfl rfl rfl (rd_load1 Tryd.to135 rfl ⟨_, _, .inr List.mem_cons_self⟩ (words_at (j := k5 - 7) (by omega) (by omega))) ?_
                      (first | refine gr_rd rfl rfl rfl (rd_add32 rfl rfl) ?_ | refine gr_rd rfl rfl rfl (rd_add rfl rfl rfl) ?_)
                      refine gr_rd rfl rfl rfl (rd_move rfl) ?_
                      refine gr_rd rfl rfl rfl (rd_move rfl) ?_
                      refine gr_rd rfl rfl rfl (rd_move rfl) ?_
                      refine gr_rd rfl rfl rfl (rd_shr32 (k := 3) (by decide) rfl rfl rfl) ?_
                      refine gr_rd rfl rfl rfl (rd_move rfl) ?_
                      refine gr_rd rfl rfl rfl (rd_move rfl) ?_
                      refine gr_rd rfl rfl rfl (rd_move rfl) ?_
                      refine gr_rd rfl rfl rfl (rd_shr32 (k := 10) (by decide) rfl rfl rfl) ?_
                      refine gr_nx rfl rfl rfl (nx_call Tryd.en98 rfl (turn_cc _ _ _ 7 7 rfl (by decide) (by decide))) ?_; rintro v115 H' L' hle ⟨rfl, rfl, rfl⟩; refine ⟨⟨(by first | exact Gh.le_refl _ | assumption | exact Gh.le_trans (by assumption) (by assumption)), (by repeat (first | exact List.Sublist.refl _ | exact List.nil_sublist _ | apply List.Sublist.cons_cons | apply List.Sublist.cons | apply List.Sublist.append (List.Sublist.refl _) | refine List.Sublist.trans ?_ (List.sublist_append_right _ _)))⟩, ?_⟩
                      refine gr_nx rfl rfl rfl (nx_call Tryd.en98 rfl (turn_cc _ _ _ 18 18 rfl (by decide) (by decide))) ?_; rintro v117 H' L' hle ⟨rfl, rfl, rfl⟩; refine ⟨⟨(by first | exact Gh.le_refl _ | assumption | exact Gh.le_trans (by assumption) (by assumption)), (by repeat (first | exact List.Sublist.refl _ | exact List.nil_sublist _ | apply List.Sublist.cons_cons | apply List.Sublist.cons | apply List.Sublist.append (List.Sublist.refl _) | refine List.Sublist.trans ?_ (List.sublist_append_right _ _)))⟩, ?_⟩
                      (first | refine gr_rd rfl rfl rfl (rd_xor32 rfl rfl) ?_ | refine gr_rd rfl rfl rfl (rd_bits (by simp) rfl rfl rfl) ?_)
                      (first | refine gr_rd rfl rfl rfl (rd_xor32 rfl rfl) ?_ | refine gr_rd rfl rfl rfl (rd_bits (by simp) rfl rfl rfl) ?_)
                      (first | refine gr_rd rfl rfl rfl (rd_add32 rfl rfl) ?_ | refine gr_rd rfl rfl rfl (rd_add rfl rfl rfl) ?_)
                      refine gr_nx rfl rfl rfl (nx_call Tryd.en98 rfl (turn_cc _ _ _ 17 17 rfl (by decide) (by decide))) ?_; rintro v124 H' L' hle ⟨rfl, rfl, rfl⟩; refine ⟨⟨(by first | exact Gh.le_refl _ | assumption | exact Gh.le_trans (by assumption) (by assumption)), (by repeat (first | exact List.Sublist.refl _ | exact List.nil_sublist _ | apply List.Sublist.cons_cons | apply List.Sublist.cons | apply List.Sublist.append (List.Sublist.refl _) | refine List.Sublist.trans ?_ (List.sublist_append_right _ _)))⟩, ?_⟩
                      refine gr_nx rfl rfl rfl (nx_call Tryd.en98 rfl (turn_cc _ _ _ 19 19 rfl (by decide) (by decide))) ?_; rintro v126 H' L' hle ⟨rfl, rfl, rfl⟩; refine ⟨⟨(by first | exact Gh.le_refl _ | assumption | exact Gh.le_trans (by assumption) (by assumption)), (by repeat (first | exact List.Sublist.refl _ | exact List.nil_sublist _ | apply List.Sublist.cons_cons | apply List.Sublist.cons | apply List.Sublist.append (List.Sublist.refl _) | refine List.Sublist.trans ?_ (List.sublist_append_right _ _)))⟩, ?_⟩
                      (first | refine gr_rd rfl rfl rfl (rd_xor32 rfl rfl) ?_ | refine gr_rd rfl rfl rfl (rd_bits (by simp) rfl rfl rfl) ?_)
                      (first | refine gr_rd rfl rfl rfl (rd_xor32 rfl rfl) ?_ | refine gr_rd rfl rfl rfl (rd_bits (by simp) rfl rfl rfl) ?_)
                      (first | refine gr_rd rfl rfl rfl (rd_add32 rfl rfl) ?_ | refine gr_rd rfl rfl rfl (rd_add rfl rfl rfl) ?_)
                      refine gr_rd rfl rfl rfl (rd_indexS Tryd.underlying131 Tryd.sizeOf135 rfl rfl (by first | rfl | assumption) (by omega) (by omega)) ?_
                      refine gr_fin0 rfl rfl (nx_store (vs := [_]) Tryd.sizeOf135 rfl rfl rfl rfl Upd.here (words_fit (by omega) _) (oneCells_of_all rfl)) ?_; rintro _ _ _ _ ⟨rfl, rfl, rfl⟩
                      refine gr_nil ?_
                      refine gk_inBlock ?_
                      refine gk_then ?_
                      refine gc_seqr [(.mv, 0), (.mv, 1), (.mv, 2)] rfl ?_
                      refine gr_rd rfl rfl rfl (rd_move rfl) ?_
                      (first | refine gr_rd rfl rfl rfl (rd_add rfl rfl (IntWalk.i64_in _ (by omega))) ?_ | refine gr_rd rfl rfl rfl (rd_add rfl rfl rfl) ?_)
                      refine gr_rd rfl rfl rfl (rd_assign rfl) ?_
                      refine gr_nil ?_
                      refine gk_round (k5 + 1) (by omega) ⟨rfl, ?_, by omega, by omega⟩ (by repeat (first | exact Subs.nil | refine Subs.cons rfl ?_))
                      rw [words_next hk64b (by rw [if_neg (by omega)]; rfl)]
                    · have hk64b : k5 = 64 := by simp at hc5; omega
                      subst hk64b
                      have hW0 : wordsTo p 64 ++ List.replicate (64 - 64) 0 = wordsTo p 64 := List.append_nil _
                      have hWl : (wordsTo p 64).length = 64 := wordsTo_length p 64
                      rw [hW0]
                      clear hW0
                      have hmix0 : mixH hv p = List.zipWith (· + ·) hv (roundsTo hv (wordsTo p 64) 64) := rfl
                      obtain ⟨W, hW⟩ : ∃ W, wordsTo p 64 = W := ⟨_, rfl⟩
                      rw [hW] at hWl hmix0 ⊢
                      refine gc_exit ?_
                      refine gk_exit_then ?_
                      refine gk_exit_then ?_
                      refine gk_here ?_
                      refine gk_then ?_
                      refine gc_seq ?_
                      refine gc_seqr [(.nm, 0), (.mv, 1), (.nm, 2), (.mv, 3)] rfl ?_
                      refine gr_nx rfl rfl rfl (nx_slice1 (vs := []) Tryd.underlying131 Tryd.sizeOf135 Tryd.zeroValue135 rfl rfl rfl (by first | exact oneCells_of_all rfl | assumption) rfl rfl) ?_; rintro _ _ _ _ ⟨b133, rfl, rfl, rfl⟩; refine ⟨trivial, ?_⟩
                      refine gr_rd rfl rfl rfl (rd_move rfl) ?_
                      refine gr_nx rfl rfl rfl (nx_append Tryd.app131_131 rfl rfl (Ow.new (b := b133) (e := 135) (k := 1) (n := 0) (cs := []) rfl) (by repeat (first | exact Pick.here | exact Pick.one | apply Pick.there | apply Pick.app)) (src_one (m := 8) (by rw [List.length_map, hv8]) (oneCells_w32 hv) (List.mem_cons_of_mem _ (List.mem_cons_of_mem _ (List.mem_append_right _ (List.mem_cons_of_mem _ List.mem_cons_self))))) (by omega) (by omega)) ?_; rintro v135 H' L' hle ⟨C5, hO5, _, rfl, rfl⟩; refine ⟨trivial, ?_⟩
                      refine gr_rd rfl rfl rfl (rd_assign rfl) ?_
                      refine gr_nil ?_
                      refine gk_then ?_
                      refine gc_seq ?_
                      refine gc_seq ?_
                      refine gc_seqr [(.mv, 0)] rfl ?_
                      refine gr_rd rfl rfl rfl (rd_assign rfl) ?_
                      refine gr_nil ?_
                      refine gk_then ?_
                      refine gc_block ?_
                      refine gc_loop (fun t : Nat × Value × Chunks => [(2, pt b2 0), (3, .slice (some ⟨bh, 0, none⟩) 8 8), (4, .slice (some ⟨bk, 0, none⟩) 64 64), (5, .slice (some ⟨bb, 0, none⟩) (padded s).length cap2), (8, i64 ((64 * k : Nat) : Int)), (9, .slice (some ⟨bw, 0, none⟩) 64 64), (15, t.2.1), (16, i64 t.1)]) (fun t H1 L1 => H = H1 ∧ L1 = t.2.2 ++ (bw, .cells (W.map w32).toArray 135 (0, 0)) :: (C3 ++ (bk, .cells (roundK.map w32).toArray 135 (0, 0)) :: (bh, .cells (hv.map w32).toArray 135 (0, 0)) :: (b2, .cells (List.replicate 32 (u8v 0)).toArray 34 (0, 0)) :: L) ∧ t.1 ≤ 64 ∧ Ow 135 1 t.2.2 t.2.1 8 ((roundsTo hv W t.1).map w32)) (fun t => 64 - t.1) ((0, v135, C5)) ?_ (by repeat (first | exact Subs.nil | refine Subs.cons rfl ?_)) ?_
                      · exact ⟨rfl, rfl, Nat.zero_le _, by simpa [roundsTo] using hO5⟩
                      · rintro ⟨i, vv, Cv⟩ H1 L1 ⟨rfl, rfl, hi, hOv⟩
                        simp only at hi hOv
                        show GC _ _ _ _ [(2, pt b2 0), (3, .slice (some ⟨bh, 0, none⟩) 8 8), (4, .slice (some ⟨bk, 0, none⟩) 64 64), (5, .slice (some ⟨bb, 0, none⟩) (padded s).length cap2), (8, i64 ((64 * k : Nat) : Int)), (9, .slice (some ⟨bw, 0, none⟩) 64 64), (15, vv), (16, i64 i)] H (Cv ++ (bw, .cells (W.map w32).toArray 135 (0, 0)) :: (C3 ++ (bk, .cells (roundK.map w32).toArray 135 (0, 0)) :: (bh, .cells (hv.map w32).toArray 135 (0, 0)) :: (b2, .cells (List.replicate 32 (u8v 0)).toArray 34 (0, 0)) :: L))
                        obtain ⟨Av, capv, rfl, hcapv⟩ := hOv.slice
                        refine gc_seq ?_
                        refine gc_seq ?_
                        refine gc_seqr [(.mv, 0), (.mv, 1)] rfl ?_
                        refine gr_rd rfl rfl rfl (rd_move rfl) ?_
                        refine gr_rd rfl rfl rfl (rd_lss rfl rfl) ?_
                        refine gr_nil ?_
                        refine gk_then ?_
                        refine gc_cond rfl (fun hc6 => ?_) (fun hc6 => ?_)
                        · have hi64 : i < 64 := by simp at hc6; omega
                          obtain ⟨bv, lv, rfl, hcv, hsv⟩ := ow_cells hOv (by decide)
                          obtain ⟨a0, a1, a2, a3, a4, a5, a6, a7, hr⟩ := list8 (roundsTo_length hv W hv8 i)
                          rw [hr] at hsv
                          have hclv := hcv H (Cv ++ (bw, .cells (W.map w32).toArray 135 (0, 0)) :: (C3 ++ (bk, .cells (roundK.map w32).toArray 135 (0, 0)) :: (bh, .cells (hv.map w32).toArray 135 (0, 0)) :: (b2, .cells (List.replicate 32 (u8v 0)).toArray 34 (0, 0)) :: L)) (fun x hx => List.mem_append_left _ hx)
                          have hclk : Cells H (Cv ++ (bw, .cells (W.map w32).toArray 135 (0, 0)) :: (C3 ++ (bk, .cells (roundK.map w32).toArray 135 (0, 0)) :: (bh, .cells (hv.map w32).toArray 135 (0, 0)) :: (b2, .cells (List.replicate 32 (u8v 0)).toArray 34 (0, 0)) :: L)) bk (roundK.map w32) := Cells.own (List.mem_append_right _ (List.mem_cons_of_mem _ (List.mem_append_right _ List.mem_cons_self)))
                          have hclw : Cells H (Cv ++ (bw, .cells (W.map w32).toArray 135 (0, 0)) :: (C3 ++ (bk, .cells (roundK.map w32).toArray 135 (0, 0)) :: (bh, .cells (hv.map w32).toArray 135 (0, 0)) :: (b2, .cells (List.replicate 32 (u8v 0)).toArray 34 (0, 0)) :: L)) bw (W.map w32) := Cells.own (List.mem_append_right _ List.mem_cons_self)
                          have hx0 : lv[0]? = some (w32 a0) := hsv 0 (by simp)
                          have hx1 : lv[1]? = some (w32 a1) := hsv 1 (by simp)
                          have hx2 : lv[2]? = some (w32 a2) := hsv 2 (by simp)
                          have hx3 : lv[3]? = some (w32 a3) := hsv 3 (by simp)
                          have hx4 : lv[4]? = some (w32 a4) := hsv 4 (by simp)
                          have hx5 : lv[5]? = some (w32 a5) := hsv 5 (by simp)
                          have hx6 : lv[6]? = some (w32 a6) := hsv 6 (by simp)
                          have hx7 : lv[7]? = some (w32 a7) := hsv 7 (by simp)
                          have hxk := w32_at2 roundK (j := i) (i := (i : Int)) hi64 rfl
                          have hxw := w32_at2 W (j := i) (i := (i : Int)) (by omega) rfl
                          refine gc_skip ?_
                          refine gk_then ?_
                          refine gc_seq ?_
                          refine gc_block ?_
                          refine gc_seq ?_
                          refine gc_draw Tryd.mixed [(.mv, 0), (.mv, 1), (.mv, 2), (.mv, 3), (.mv, 4), (.mv, 5), (.mv, 7), (.mv, 8), (.mv, 9), (.mv, 12), (.mv, 13), (.mv, 14), (.mv, 18), (.mv, 19), (.mv, 20), (.mv, 21), (.mv, 22), (.mv, 23), (.mv, 24), (.mv, 25), (.mv, 26), (.mv, 27), (.mv, 28), (.mv, 29), (.mv, 30), (.mv, 31), (.mv, 32), (.mv, 33), (.mv, 35), (.mv, 36), (.mv, 37), (.mv, 38), (.mv, 40), (.mv, 41), (.mv, 42), (.mv, 43), (.nm, 6), (.nm, 10), (.mv, 11), (.nm, 15), (.mv, 16), (.mv, 17), (.mv, 34), (.mv, 39), (.mv, 44), (.mv, 45)] (by decide +kernel) _ (List.Sublist.refl _) ?_
                          refine gr_rd rfl rfl rfl (rd_move rfl) ?_
                          refine gr_rd rfl rfl rfl (rd_indexS Tryd.underlying131 Tryd.sizeOf135 rfl rfl (by first | rfl | assumption) (by omega) (by omega)) ?_
                          refine gr_rd rfl rfl rfl (rd_load1 Tryd.to135 rfl (by first | (apply Cells.own; (repeat (first | exact List.mem_cons_self | apply List.mem_cons_of_mem)); done) | assumption) (by first | rfl | assumption | exact encOp_37 _ _ | exact encOp_36 _ _ | exact encOp_35 _ _ | exact encOp_0 _ _ | exact encOp_1 _ _ | exact encOp_2 _ _ | exact encDraft_0 _ | exact encDraft_1 _ | exact encDraft_2 _ | simp)) ?_
                          refine gr_rd rfl rfl rfl (rd_move rfl) ?_
                          refine gr_rd rfl rfl rfl (rd_indexS Tryd.underlying131 Tryd.sizeOf135 rfl rfl (by first | rfl | assumption) (by omega) (by omega)) ?_
                          refine gr_rd rfl rfl rfl (rd_load1 Tryd.to135 rfl (by first | (apply Cells.own; (repeat (first | exact List.mem_cons_self | apply List.mem_cons_of_mem)); done) | assumption) (by first | rfl | assumption | exact encOp_37 _ _ | exact encOp_36 _ _ | exact encOp_35 _ _ | exact encOp_0 _ _ | exact encOp_1 _ _ | exact encOp_2 _ _ | exact encDraft_0 _ | exact encDraft_1 _ | exact encDraft_2 _ | simp)) ?_
                          refine gr_rd rfl rfl rfl (rd_move rfl) ?_
                          refine gr_rd rfl rfl rfl (rd_indexS Tryd.underlying131 Tryd.sizeOf135 rfl rfl (by first | rfl | assumption) (by omega) (by omega)) ?_
                          refine gr_rd rfl rfl rfl (rd_load1 Tryd.to135 rfl (by first | (apply Cells.own; (repeat (first | exact List.mem_cons_self | apply List.mem_cons_of_mem)); done) | assumption) (by first | rfl | assumption | exact encOp_37 _ _ | exact encOp_36 _ _ | exact encOp_35 _ _ | exact encOp_0 _ _ | exact encOp_1 _ _ | exact encOp_2 _ _ | exact encDraft_0 _ | exact encDraft_1 _ | exact encDraft_2 _ | simp)) ?_
                          refine gr_rd rfl rfl rfl (rd_move rfl) ?_
                          refine gr_rd rfl rfl rfl (rd_indexS Tryd.underlying131 Tryd.sizeOf135 rfl rfl (by first | rfl | assumption) (by omega) (by omega)) ?_
                          refine gr_rd rfl rfl rfl (rd_load1 Tryd.to135 rfl (by first | (apply Cells.own; (repeat (first | exact List.mem_cons_self | apply List.mem_cons_of_mem)); done) | assumption) (by first | rfl | assumption | exact encOp_37 _ _ | exact encOp_36 _ _ | exact encOp_35 _ _ | exact encOp_0 _ _ | exact encOp_1 _ _ | exact encOp_2 _ _ | exact encDraft_0 _ | exact encDraft_1 _ | exact encDraft_2 _ | simp)) ?_
                          refine gr_rd rfl rfl rfl (rd_move rfl) ?_
                          refine gr_rd rfl rfl rfl (rd_indexS Tryd.underlying131 Tryd.sizeOf135 rfl rfl (by first | rfl | assumption) (by omega) (by omega)) ?_
                          refine gr_rd rfl rfl rfl (rd_load1 Tryd.to135 rfl (by first | (apply Cells.own; (repeat (first | exact List.mem_cons_self | apply List.mem_cons_of_mem)); done) | assumption) (by first | rfl | assumption | exact encOp_37 _ _ | exact encOp_36 _ _ | exact encOp_35 _ _ | exact encOp_0 _ _ | exact encOp_1 _ _ | exact encOp_2 _ _ | exact encDraft_0 _ | exact encDraft_1 _ | exact encDraft_2 _ | simp)) ?_
                          refine gr_rd rfl rfl rfl (rd_move rfl) ?_
                          refine gr_rd rfl rfl rfl (rd_indexS Tryd.underlying131 Tryd.sizeOf135 rfl rfl (by first | rfl | assumption) (by omega) (by omega)) ?_
                          refine gr_rd rfl rfl rfl (rd_load1 Tryd.to135 rfl (by first | (apply Cells.own; (repeat (first | exact List.mem_cons_self | apply List.mem_cons_of_mem)); done) | assumption) (by first | rfl | assumption | exact encOp_37 _ _ | exact encOp_36 _ _ | exact encOp_35 _ _ | exact encOp_0 _ _ | exact encOp_1 _ _ | exact encOp_2 _ _ | exact encDraft_0 _ | exact encDraft_1 _ | exact encDraft_2 _ | simp)) ?_
                          (first | refine gr_rd rfl rfl rfl (rd_and32 rfl rfl) ?_ | refine gr_rd rfl rfl rfl (rd_bits (by simp) rfl rfl rfl) ?_)
                          refine gr_rd rfl rfl rfl (rd_move rfl) ?_
                          refine gr_rd rfl rfl rfl (rd_indexS Tryd.underlying131 Tryd.sizeOf135 rfl rfl (by first | rfl | assumption) (by omega) (by omega)) ?_
                          refine gr_rd rfl rfl rfl (rd_load1 Tryd.to135 rfl (by first | (apply Cells.own; (repeat (first | exact List.mem_cons_self | apply List.mem_cons_of_mem)); done) | assumption) (by first | rfl | assumption | exact encOp_37 _ _ | exact encOp_36 _ _ | exact encOp_35 _ _ | exact encOp_0 _ _ | exact encOp_1 _ _ | exact encOp_2 _ _ | exact encDraft_0 _ | exact encDraft_1 _ | exact encDraft_2 _ | simp)) ?_
                          refine gr_rd rfl rfl rfl (rd_not32 rfl) ?_
                          refine gr_rd rfl rfl rfl (rd_move rfl) ?_
                          refine gr_rd rfl rfl rfl (rd_indexS Tryd.underlying131 Tryd.sizeOf135 rfl rfl (by first | rfl | assumption) (by omega) (by omega)) ?_
                          refine gr_rd rfl rfl rfl (rd_load1 Tryd.to135 rfl (by first | (apply Cells.own; (repeat (first | exact List.mem_cons_self | apply List.mem_cons_of_mem)); done) | assumption) (by first | rfl | assumption | exact encOp_37 _ _ | exact encOp_36 _ _ | exact encOp_35 _ _ | exact encOp_0 _ _ | exact encOp_1 _ _ | exact encOp_2 _ _ | exact encDraft_0 _ | exact encDraft_1 _ | exact encDraft_2 _ | simp)) ?_
                          (first | refine gr_rd rfl rfl rfl (rd_and32 rfl rfl) ?_ | refine gr_rd rfl rfl rfl (rd_bits (by simp) rfl rfl rfl) ?_)
                          (first | refine gr_rd rfl rfl rfl (rd_xor32 rfl rfl) ?_ | refine gr_rd rfl rfl rfl (rd_bits (by simp) rfl rfl rfl) ?_)
                          refine gr_rd rfl rfl rfl (rd_move rfl) ?_
                          refine gr_rd rfl rfl rfl (rd_move rfl) ?_
                          refine gr_rd rfl rfl rfl (rd_indexS Tryd.underlying131 Tryd.sizeOf135 rfl rfl (by first | rfl | assumption) (by omega) (by omega)) ?_
                          refine gr_rd rfl rfl rfl (rd_load1 Tryd.to135 rfl (by first | (apply Cells.own; (repeat (first | exact List.mem_cons_self | apply List.mem_cons_of_mem)); done) | assumption) (by first | rfl | assumption | exact encOp_37 _ _ | exact encOp_36 _ _ | exact encOp_35 _ _ | exact encOp_0 _ _ | exact encOp_1 _ _ | exact encOp_2 _ _ | exact encDraft_0 _ | exact encDraft_1 _ | exact encDraft_2 _ | simp)) ?_
                          refine gr_rd rfl rfl rfl (rd_move rfl) ?_
                          refine gr_rd rfl rfl rfl (rd_move rfl) ?_
                          refine gr_rd rfl rfl rfl (rd_indexS Tryd.underlying131 Tryd.sizeOf135 rfl rfl (by first | rfl | assumption) (by omega) (by omega)) ?_
                          refine gr_rd rfl rfl rfl (rd_load1 Tryd.to135 rfl (by first | (apply Cells.own; (repeat (first | exact List.mem_cons_self | apply List.mem_cons_of_mem)); done) | assumption) (by first | rfl | assumption | exact encOp_37 _ _ | exact encOp_36 _ _ | exact encOp_35 _ _ | exact encOp_0 _ _ | exact encOp_1 _ _ | exact encOp_2 _ _ | exact encDraft_0 _ | exact encDraft_1 _ | exact encDraft_2 _ | simp)) ?_
                          refine gr_nx rfl rfl rfl (nx_call Tryd.en98 rfl (turn_cc _ _ _ 6 6 rfl (by decide) (by decide))) ?_; rintro v146 H' L' hle ⟨rfl, rfl, rfl⟩; refine ⟨⟨(by first | exact Gh.le_refl _ | assumption | exact Gh.le_trans (by assumption) (by assumption)), (by repeat (first | exact List.Sublist.refl _ | exact List.nil_sublist _ | apply List.Sublist.cons_cons | apply List.Sublist.cons | apply List.Sublist.append (List.Sublist.refl _) | refine List.Sublist.trans ?_ (List.sublist_append_right _ _)))⟩, ?_⟩
                          refine gr_nx rfl rfl rfl (nx_call Tryd.en98 rfl (turn_cc _ _ _ 11 11 rfl (by decide) (by decide))) ?_; rintro v150 H' L' hle ⟨rfl, rfl, rfl⟩; refine ⟨⟨(by first | exact Gh.le_refl _ | assumption | exact Gh.le_trans (by assumption) (by assumption)), (by repeat (first | exact List.Sublist.refl _ | exact List.nil_sublist _ | apply List.Sublist.cons_cons | apply List.Sublist.cons | apply List.Sublist.append (List.Sublist.refl _) | refine List.Sublist.trans ?_ (List.sublist_append_right _ _)))⟩, ?_⟩
                          (first | refine gr_rd rfl rfl rfl (rd_xor32 rfl rfl) ?_ | refine gr_rd rfl rfl rfl (rd_bits (by simp) rfl rfl rfl) ?_)
                          refine gr_nx rfl rfl rfl (nx_call Tryd.en98 rfl (turn_cc _ _ _ 25 25 rfl (by decide) (by decide))) ?_; rintro v155 H' L' hle ⟨rfl, rfl, rfl⟩; refine ⟨⟨(by first | exact Gh.le_refl _ | assumption | exact Gh.le_trans (by assumption) (by assumption)), (by repeat (first | exact List.Sublist.refl _ | exact List.nil_sublist _ | apply List.Sublist.cons_cons | apply List.Sublist.cons | apply List.Sublist.append (List.Sublist.refl _) | refine List.Sublist.trans ?_ (List.sublist_append_right _ _)))⟩, ?_⟩
                          (first | refine gr_rd rfl rfl rfl (rd_xor32 rfl rfl) ?_ | refine gr_rd rfl rfl rfl (rd_bits (by simp) rfl rfl rfl) ?_)
                          (first | refine gr_rd rfl rfl rfl (rd_add32 rfl rfl) ?_ | refine gr_rd rfl rfl rfl (rd_add rfl rfl rfl) ?_)
                          (first | refine gr_rd rfl rfl rfl (rd_add32 rfl rfl) ?_ | refine gr_rd rfl rfl rfl (rd_add rfl rfl rfl) ?_)
                          (first | refine gr_rd rfl rfl rfl (rd_add32 rfl rfl) ?_ | refine gr_rd rfl rfl rfl (rd_add rfl rfl rfl) ?_)
                          (first | refine gr_rd rfl rfl rfl (rd_add32 rfl rfl) ?_ | refine gr_rd rfl rfl rfl (rd_add rfl rfl rfl) ?_)
                          refine gr_rd rfl rfl rfl (rd_assign rfl) ?_
                          refine gr_nil ?_
                          refine gk_then ?_
                          refine gc_seq ?_
                          refine gc_draw Tryd.mixed [(.mv, 0), (.mv, 1), (.mv, 2), (.mv, 4), (.mv, 5), (.mv, 6), (.mv, 9), (.mv, 10), (.mv, 11), (.mv, 14), (.mv, 15), (.mv, 16), (.mv, 17), (.mv, 18), (.mv, 19), (.mv, 20), (.mv, 21), (.mv, 22), (.mv, 23), (.mv, 24), (.mv, 25), (.mv, 26), (.mv, 27), (.mv, 28), (.mv, 29), (.mv, 30), (.mv, 31), (.mv, 32), (.mv, 33), (.mv, 34), (.mv, 35), (.mv, 36), (.nm, 3), (.nm, 7), (.mv, 8), (.nm, 12), (.mv, 13), (.mv, 37), (.mv, 38)] (by decide +kernel) _ (List.Sublist.refl _) ?_
                          refine gr_rd rfl rfl rfl (rd_move rfl) ?_
                          refine gr_rd rfl rfl rfl (rd_indexS Tryd.underlying131 Tryd.sizeOf135 rfl rfl (by first | rfl | assumption) (by omega) (by omega)) ?_
                          refine gr_rd rfl rfl rfl (rd_load1 Tryd.to135 rfl (by first | (apply Cells.own; (repeat (first | exact List.mem_cons_self | apply List.mem_cons_of_mem)); done) | assumption) (by first | rfl | assumption | exact encOp_37 _ _ | exact encOp_36 _ _ | exact encOp_35 _ _ | exact encOp_0 _ _ | exact encOp_1 _ _ | exact encOp_2 _ _ | exact encDraft_0 _ | exact encDraft_1 _ | exact encDraft_2 _ | simp)) ?_
                          refine gr_rd rfl rfl rfl (rd_move rfl) ?_
                          refine gr_rd rfl rfl rfl (rd_indexS Tryd.underlying131 Tryd.sizeOf135 rfl rfl (by first | rfl | assumption) (by omega) (by omega)) ?_
                          refine gr_rd rfl rfl rfl (rd_load1 Tryd.to135 rfl (by first | (apply Cells.own; (repeat (first | exact List.mem_cons_self | apply List.mem_cons_of_mem)); done) | assumption) (by first | rfl | assumption | exact encOp_37 _ _ | exact encOp_36 _ _ | exact encOp_35 _ _ | exact encOp_0 _ _ | exact encOp_1 _ _ | exact encOp_2 _ _ | exact encDraft_0 _ | exact encDraft_1 _ | exact encDraft_2 _ | simp)) ?_
                          refine gr_rd rfl rfl rfl (rd_move rfl) ?_
                          refine gr_rd rfl rfl rfl (rd_indexS Tryd.underlying131 Tryd.sizeOf135 rfl rfl (by first | rfl | assumption) (by omega) (by omega)) ?_
                          refine gr_rd rfl rfl rfl (rd_load1 Tryd.to135 rfl (by first | (apply Cells.own; (repeat (first | exact List.mem_cons_self | apply List.mem_cons_of_mem)); done) | assumption) (by first | rfl | assumption | exact encOp_37 _ _ | exact encOp_36 _ _ | exact encOp_35 _ _ | exact encOp_0 _ _ | exact encOp_1 _ _ | exact encOp_2 _ _ | exact encDraft_0 _ | exact encDraft_1 _ | exact encDraft_2 _ | simp)) ?_
                          refine gr_rd rfl rfl rfl (rd_move rfl) ?_
                          refine gr_rd rfl rfl rfl (rd_indexS Tryd.underlying131 Tryd.sizeOf135 rfl rfl (by first | rfl | assumption) (by omega) (by omega)) ?_
                          refine gr_rd rfl rfl rfl (rd_load1 Tryd.to135 rfl (by first | (apply Cells.own; (repeat (first | exact List.mem_cons_self | apply List.mem_cons_of_mem)); done) | assumption) (by first | rfl | assumption | exact encOp_37 _ _ | exact encOp_36 _ _ | exact encOp_35 _ _ | exact encOp_0 _ _ | exact encOp_1 _ _ | exact encOp_2 _ _ | exact encDraft_0 _ | exact encDraft_1 _ | exact encDraft_2 _ | simp)) ?_
                          refine gr_rd rfl rfl rfl (rd_move rfl) ?_
                          refine gr_rd rfl rfl rfl (rd_indexS Tryd.underlying131 Tryd.sizeOf135 rfl rfl (by first | rfl | assumption) (by omega) (by omega)) ?_
                          refine gr_rd rfl rfl rfl (rd_load1 Tryd.to135 rfl (by first | (apply Cells.own; (repeat (first | exact List.mem_cons_self | apply List.mem_cons_of_mem)); done) | assumption) (by first | rfl | assumption | exact encOp_37 _ _ | exact encOp_36 _ _ | exact encOp_35 _ _ | exact encOp_0 _ _ | exact encOp_1 _ _ | exact encOp_2 _ _ | exact encDraft_0 _ | exact encDraft_1 _ | exact encDraft_2 _ | simp)) ?_
                          (first | refine gr_rd rfl rfl rfl (rd_and32 rfl rfl) ?_ | refine gr_rd rfl rfl rfl (rd_bits (by simp) rfl rfl rfl) ?_)
                          refine gr_rd rfl rfl rfl (rd_move rfl) ?_
                          refine gr_rd rfl rfl rfl (rd_indexS Tryd.underlying131 Tryd.sizeOf135 rfl rfl (by first | rfl | assumption) (by omega) (by omega)) ?_
                          refine gr_rd rfl rfl rfl (rd_load1 Tryd.to135 rfl (by first | (apply Cells.own; (repeat (first | exact List.mem_cons_self | apply List.mem_cons_of_mem)); done) | assumption) (by first | rfl | assumption | exact encOp_37 _ _ | exact encOp_36 _ _ | exact encOp_35 _ _ | exact encOp_0 _ _ | exact encOp_1 _ _ | exact encOp_2 _ _ | exact encDraft_0 _ | exact encDraft_1 _ | exact encDraft_2 _ | simp)) ?_
                          refine gr_rd rfl rfl rfl (rd_move rfl) ?_
                          refine gr_rd rfl rfl rfl (rd_indexS Tryd.underlying131 Tryd.sizeOf135 rfl rfl (by first | rfl | assumption) (by omega) (by omega)) ?_
                          refine gr_rd rfl rfl rfl (rd_load1 Tryd.to135 rfl (by first | (apply Cells.own; (repeat (first | exact List.mem_cons_self | apply List.mem_cons_of_mem)); done) | assumption) (by first | rfl | assumption | exact encOp_37 _ _ | exact encOp_36 _ _ | exact encOp_35 _ _ | exact encOp_0 _ _ | exact encOp_1 _ _ | exact encOp_2 _ _ | exact encDraft_0 _ | exact encDraft_1 _ | exact encDraft_2 _ | simp)) ?_
                          (first | refine gr_rd rfl rfl rfl (rd_and32 rfl rfl) ?_ | refine gr_rd rfl rfl rfl (rd_bits (by simp) rfl rfl rfl) ?_)
                          (first | refine gr_rd rfl rfl rfl (rd_xor32 rfl rfl) ?_ | refine gr_rd rfl rfl rfl (rd_bits (by simp) rfl rfl rfl) ?_)
                          refine gr_rd rfl rfl rfl (rd_move rfl) ?_
                          refine gr_rd rfl rfl rfl (rd_indexS Tryd.underlying131 Tryd.sizeOf135 rfl rfl (by first | rfl | assumption) (by omega) (by omega)) ?_
                          refine gr_rd rfl rfl rfl (rd_load1 Tryd.to135 rfl (by first | (apply Cells.own; (repeat (first | exact List.mem_cons_self | apply List.mem_cons_of_mem)); done) | assumption) (by first | rfl | assumption | exact encOp_37 _ _ | exact encOp_36 _ _ | exact encOp_35 _ _ | exact encOp_0 _ _ | exact encOp_1 _ _ | exact encOp_2 _ _ | exact encDraft_0 _ | exact encDraft_1 _ | exact encDraft_2 _ | simp)) ?_
                          refine gr_rd rfl rfl rfl (rd_move rfl) ?_
                          refine gr_rd rfl rfl rfl (rd_indexS Tryd.underlying131 Tryd.sizeOf135 rfl rfl (by first | rfl | assumption) (by omega) (by omega)) ?_
                          refine gr_rd rfl rfl rfl (rd_load1 Tryd.to135 rfl (by first | (apply Cells.own; (repeat (first | exact List.mem_cons_self | apply List.mem_cons_of_mem)); done) | assumption) (by first | rfl | assumption | exact encOp_37 _ _ | exact encOp_36 _ _ | exact encOp_35 _ _ | exact encOp_0 _ _ | exact encOp_1 _ _ | exact encOp_2 _ _ | exact encDraft_0 _ | exact encDraft_1 _ | exact encDraft_2 _ | simp)) ?_
                          (first | refine gr_rd rfl rfl rfl (rd_and32 rfl rfl) ?_ | refine gr_rd rfl rfl rfl (rd_bits (by simp) rfl rfl rfl) ?_)
                          (first | refine gr_rd rfl rfl rfl (rd_xor32 rfl rfl) ?_ | refine gr_rd rfl rfl rfl (rd_bits (by simp) rfl rfl rfl) ?_)
                          refine gr_nx rfl rfl rfl (nx_call Tryd.en98 rfl (turn_cc _ _ _ 2 2 rfl (by decide) (by decide))) ?_; rintro v188 H' L' hle ⟨rfl, rfl, rfl⟩; refine ⟨⟨(by first | exact Gh.le_refl _ | assumption | exact Gh.le_trans (by assumption) (by assumption)), (by repeat (first | exact List.Sublist.refl _ | exact List.nil_sublist _ | apply List.Sublist.cons_cons | apply List.Sublist.cons | apply List.Sublist.append (List.Sublist.refl _) | refine List.Sublist.trans ?_ (List.sublist_append_right _ _)))⟩, ?_⟩
                          refine gr_nx rfl rfl rfl (nx_call Tryd.en98 rfl (turn_cc _ _ _ 13 13 rfl (by decide) (by decide))) ?_; rintro v192 H' L' hle ⟨rfl, rfl, rfl⟩; refine ⟨⟨(by first | exact Gh.le_refl _ | assumption | exact Gh.le_trans (by assumption) (by assumption)), (by repeat (first | exact List.Sublist.refl _ | exact List.nil_sublist _ | apply List.Sublist.cons_cons | apply List.Sublist.cons | apply List.Sublist.append (List.Sublist.refl _) | refine List.Sublist.trans ?_ (List.sublist_append_right _ _)))⟩, ?_⟩
                          (first | refine gr_rd rfl rfl rfl (rd_xor32 rfl rfl) ?_ | refine gr_rd rfl rfl rfl (rd_bits (by simp) rfl rfl rfl) ?_)
                          refine gr_nx rfl rfl rfl (nx_call Tryd.en98 rfl (turn_cc _ _ _ 22 22 rfl (by decide) (by decide))) ?_; rintro v197 H' L' hle ⟨rfl, rfl, rfl⟩; refine ⟨⟨(by first | exact Gh.le_refl _ | assumption | exact Gh.le_trans (by assumption) (by assumption)), (by repeat (first | exact List.Sublist.refl _ | exact List.nil_sublist _ | apply List.Sublist.cons_cons | apply List.Sublist.cons | apply List.Sublist.append (List.Sublist.refl _) | refine List.Sublist.trans ?_ (List.sublist_append_right _ _)))⟩, ?_⟩
                          (first | refine gr_rd rfl rfl rfl (rd_xor32 rfl rfl) ?_ | refine gr_rd rfl rfl rfl (rd_bits (by simp) rfl rfl rfl) ?_)
                          (first | refine gr_rd rfl rfl rfl (rd_add32 rfl rfl) ?_ | refine gr_rd rfl rfl rfl (rd_add rfl rfl rfl) ?_)
                          refine gr_rd rfl rfl rfl (rd_assign rfl) ?_
                          refine gr_nil ?_
                          refine gk_then ?_
                          refine gc_draw Tryd.mixed [(.mv, 0), (.mv, 1), (.mv, 2), (.mv, 3), (.mv, 4), (.mv, 5), (.mv, 6), (.mv, 7), (.mv, 8), (.mv, 9), (.mv, 10), (.mv, 11), (.mv, 12), (.mv, 13), (.mv, 14), (.mv, 15), (.mv, 16), (.mv, 17), (.mv, 18), (.mv, 19), (.mv, 20), (.mv, 21), (.mv, 22), (.mv, 23), (.mv, 24), (.mv, 25), (.fin, 26), (.fin, 27)] (by decide +kernel) _ (List.Sublist.refl _) ?_
                          refine gr_rd rfl rfl rfl (rd_move rfl) ?_
                          refine gr_rd rfl rfl rfl (rd_move rfl) ?_
                          (first | refine gr_rd rfl rfl rfl (rd_add32 rfl rfl) ?_ | refine gr_rd rfl rfl rfl (rd_add rfl rfl rfl) ?_)
                          refine gr_rd rfl rfl rfl (rd_move rfl) ?_
                          refine gr_rd rfl rfl rfl (rd_indexS Tryd.underlying131 Tryd.sizeOf135 rfl rfl (by first | rfl | assumption) (by omega) (by omega)) ?_
                          refine gr_rd rfl rfl rfl (rd_load1 Tryd.to135 rfl (by first | (apply Cells.own; (repeat (first | exact List.mem_cons_self | apply List.mem_cons_of_mem)); done) | assumption) (by first | rfl | assumption | exact encOp_37 _ _ | exact encOp_36 _ _ | exact encOp_35 _ _ | exact encOp_0 _ _ | exact encOp_1 _ _ | exact encOp_2 _ _ | exact encDraft_0 _ | exact encDraft_1 _ | exact encDraft_2 _ | simp)) ?_
                          refine gr_rd rfl rfl rfl (rd_move rfl) ?_
                          refine gr_rd rfl rfl rfl (rd_indexS Tryd.underlying131 Tryd.sizeOf135 rfl rfl (by first | rfl | assumption) (by omega) (by omega)) ?_
                          refine gr_rd rfl rfl rfl (rd_load1 Tryd.to135 rfl (by first | (apply Cells.own; (repeat (first | exact List.mem_cons_self | apply List.mem_cons_of_mem)); done) | assumption) (by first | rfl | assumption | exact encOp_37 _ _ | exact encOp_36 _ _ | exact encOp_35 _ _ | exact encOp_0 _ _ | exact encOp_1 _ _ | exact encOp_2 _ _ | exact encDraft_0 _ | exact encDraft_1 _ | exact encDraft_2 _ | simp)) ?_
                          refine gr_rd rfl rfl rfl (rd_move rfl) ?_
                          refine gr_rd rfl rfl rfl (rd_indexS Tryd.underlying131 Tryd.sizeOf135 rfl rfl (by first | rfl | assumption) (by omega) (by omega)) ?_
                          refine gr_rd rfl rfl rfl (rd_load1 Tryd.to135 rfl (by first | (apply Cells.own; (repeat (first | exact List.mem_cons_self | apply List.mem_cons_of_mem)); done) | assumption) (by first | rfl | assumption | exact encOp_37 _ _ | exact encOp_36 _ _ | exact encOp_35 _ _ | exact encOp_0 _ _ | exact encOp_1 _ _ | exact encOp_2 _ _ | exact encDraft_0 _ | exact encDraft_1 _ | exact encDraft_2 _ | simp)) ?_
                          refine gr_rd rfl rfl rfl (rd_move rfl) ?_
                          refine gr_rd rfl rfl rfl (rd_indexS Tryd.underlying131 Tryd.sizeOf135 rfl rfl (by first | rfl | assumption) (by omega) (by omega)) ?_
                          refine gr_rd rfl rfl rfl (rd_load1 Tryd.to135 rfl (by first | (apply Cells.own; (repeat (first | exact List.mem_cons_self | apply List.mem_cons_of_mem)); done) | assumption) (by first | rfl | assumption | exact encOp_37 _ _ | exact encOp_36 _ _ | exact encOp_35 _ _ | exact encOp_0 _ _ | exact encOp_1 _ _ | exact encOp_2 _ _ | exact encDraft_0 _ | exact encDraft_1 _ | exact encDraft_2 _ | simp)) ?_
                          refine gr_rd rfl rfl rfl (rd_move rfl) ?_
                          (first | refine gr_rd rfl rfl rfl (rd_add32 rfl rfl) ?_ | refine gr_rd rfl rfl rfl (rd_add rfl rfl rfl) ?_)
                          refine gr_rd rfl rfl rfl (rd_move rfl) ?_
                          refine gr_rd rfl rfl rfl (rd_indexS Tryd.underlying131 Tryd.sizeOf135 rfl rfl (by first | rfl | assumption) (by omega) (by omega)) ?_
                          refine gr_rd rfl rfl rfl (rd_load1 Tryd.to135 rfl (by first | (apply Cells.own; (repeat (first | exact List.mem_cons_self | apply List.mem_cons_of_mem)); done) | assumption) (by first | rfl | assumption | exact encOp_37 _ _ | exact encOp_36 _ _ | exact encOp_35 _ _ | exact encOp_0 _ _ | exact encOp_1 _ _ | exact encOp_2 _ _ | exact encDraft_0 _ | exact encDraft_1 _ | exact encDraft_2 _ | simp)) ?_
                          refine gr_rd rfl rfl rfl (rd_move rfl) ?_
                          refine gr_rd rfl rfl rfl (rd_indexS Tryd.underlying131 Tryd.sizeOf135 rfl rfl (by first | rfl | assumption) (by omega) (by omega)) ?_
                          refine gr_rd rfl rfl rfl (rd_load1 Tryd.to135 rfl (by first | (apply Cells.own; (repeat (first | exact List.mem_cons_self | apply List.mem_cons_of_mem)); done) | assumption) (by first | rfl | assumption | exact encOp_37 _ _ | exact encOp_36 _ _ | exact encOp_35 _ _ | exact encOp_0 _ _ | exact encOp_1 _ _ | exact encOp_2 _ _ | exact encDraft_0 _ | exact encDraft_1 _ | exact encDraft_2 _ | simp)) ?_
                          refine gr_rd rfl rfl rfl (rd_move rfl) ?_
                          refine gr_rd rfl rfl rfl (rd_indexS Tryd.underlying131 Tryd.sizeOf135 rfl rfl (by first | rfl | assumption) (by omega) (by omega)) ?_
                          refine gr_rd rfl rfl rfl (rd_load1 Tryd.to135 rfl (by first | (apply Cells.own; (repeat (first | exact List.mem_cons_self | apply List.mem_cons_of_mem)); done) | assumption) (by first | rfl | assumption | exact encOp_37 _ _ | exact encOp_36 _ _ | exact encOp_35 _ _ | exact encOp_0 _ _ | exact encOp_1 _ _ | exact encOp_2 _ _ | exact encDraft_0 _ | exact encDraft_1 _ | exact encDraft_2 _ | simp)) ?_
                          refine gr_fin rfl rfl rfl (nx_slice1 (vs := [_, _, _, _, _, _, _, _]) Tryd.underlying131 Tryd.sizeOf135 Tryd.zeroValue135 rfl rfl rfl (by first | exact oneCells_of_all rfl | assumption) rfl rfl) ?_; rintro _ _ _ _ ⟨b249, rfl, rfl, rfl⟩
                          refine gr_fin rfl rfl rfl (Rd.nx (rd_assign rfl)) ?_; rintro _ _ _ _ ⟨rfl, rfl, rfl⟩
                          refine gr_nil ?_
                          refine gk_inBlock ?_
                          refine gk_then ?_
                          refine gc_seqr [(.mv, 0), (.mv, 1), (.mv, 2)] rfl ?_
                          refine gr_rd rfl rfl rfl (rd_move rfl) ?_
                          (first | refine gr_rd rfl rfl rfl (rd_add rfl rfl (IntWalk.i64_in _ (by omega))) ?_ | refine gr_rd rfl rfl rfl (rd_add rfl rfl rfl) ?_)
                          refine gr_rd rfl rfl rfl (rd_assign rfl) ?_
                          refine gr_nil ?_
                          refine gk_drop (L' := [(b249, .cells ((roundsTo hv W (i + 1)).map w32).toArray 135 (0, 0))] ++ (bw, .cells (W.map w32).toArray 135 (0, 0)) :: (C3 ++ (bk, .cells (roundK.map w32).toArray 135 (0, 0)) :: (bh, .cells (hv.map w32).toArray 135 (0, 0)) :: (b2, .cells (List.replicate 32 (u8v 0)).toArray 34 (0, 0)) :: L)) (by rw [roundsTo, hr]; exact List.Sublist.cons_cons _ (List.sublist_append_right _ _)) ?_
                          refine gk_round (i + 1, _, _) ?_ ⟨rfl, rfl, by simp only; omega, Ow.new (by simp [roundsTo_length _ _ hv8])⟩ (by repeat (first | exact Subs.nil | refine Subs.cons rfl ?_))
                          show 64 - (i + 1) < 64 - i
                          omega
                        · have hi64 : i = 64 := by simp at hc6; omega
                          subst hi64
                          obtain ⟨bv, lv, rfl, hcv, hsv⟩ := ow_cells hOv (by decide)
                          have hSl : hv.length = (roundsTo hv W 64).length := by rw [roundsTo_length hv W hv8, hv8]
                          obtain ⟨S, hS⟩ : ∃ S, roundsTo hv W 64 = S := ⟨_, rfl⟩
                          rw [hS] at hsv hmix0 hSl
                          refine gc_exit ?_
                          refine gk_exit_then ?_
                          refine gk_exit_then ?_
                          refine gk_here ?_
                          refine gk_then ?_
                          refine gc_seq ?_
                          refine gc_seqr [(.mv, 0), (.mv, 1), (.mv, 2)] rfl ?_
                          refine gr_rd rfl rfl rfl (rd_move rfl) ?_
                          refine gr_rd rfl rfl rfl (rd_lenS Tryd.underlying131 rfl) ?_
                          refine gr_rd rfl rfl rfl (rd_move rfl) ?_
                          refine gr_nil ?_
                          refine gk_then ?_
                          refine gc_block ?_
                          refine gc_loop (fun i : Nat => [(2, pt b2 0), (3, .slice (some ⟨bh, 0, none⟩) 8 8), (4, .slice (some ⟨bk, 0, none⟩) 64 64), (5, .slice (some ⟨bb, 0, none⟩) (padded s).length cap2), (8, i64 ((64 * k : Nat) : Int)), (15, .slice (some ⟨bv, 0, none⟩) 8 capv), (251, i64 8), (252, i64 i)]) (fun i H1 L1 => H = H1 ∧ Cv ++ (bw, .cells (W.map w32).toArray 135 (0, 0)) :: (C3 ++ (bk, .cells (roundK.map w32).toArray 135 (0, 0)) :: (bh, .cells ((addTo hv S i).map w32).toArray 135 (0, 0)) :: (b2, .cells (List.replicate 32 (u8v 0)).toArray 34 (0, 0)) :: L) = L1 ∧ i ≤ 8) (fun i => 8 - i) (0) ?_ (by repeat (first | exact Subs.nil | refine Subs.cons rfl ?_)) ?_
                          · exact ⟨rfl, rfl, Nat.zero_le _⟩
                          · rintro i H1 L1 ⟨rfl, rfl, hi⟩
                            refine gc_seq ?_
                            refine gc_seqr [(.mv, 0)] rfl ?_
                            refine gr_rd rfl rfl rfl (rd_lss rfl rfl) ?_
                            refine gr_nil ?_
                            refine gk_then ?_
                            refine gc_seq ?_
                            refine gc_cond rfl (fun hc7 => ?_) (fun hc7 => ?_)
                            · have hi8 : i < 8 := by simp at hc7; omega
                              have hxi : lv[0 + ((i : Int).toNat) * 1]? = some (w32 (S.getD i 0)) := by
                                rw [show 0 + ((i : Int).toNat) * 1 = i by omega]; exact hsv i (by omega)
                              have hclv := hcv H (Cv ++ (bw, .cells (W.map w32).toArray 135 (0, 0)) :: (C3 ++ (bk, .cells (roundK.map w32).toArray 135 (0, 0)) :: (bh, .cells ((addTo hv S i).map w32).toArray 135 (0, 0)) :: (b2, .cells (List.replicate 32 (u8v 0)).toArray 34 (0, 0)) :: L)) (fun x hx => List.mem_append_left _ hx)
                              have hclh : Cells H (Cv ++ (bw, .cells (W.map w32).toArray 135 (0, 0)) :: (C3 ++ (bk, .cells (roundK.map w32).toArray 135 (0, 0)) :: (bh, .cells ((addTo hv S i).map w32).toArray 135 (0, 0)) :: (b2, .cells (List.replicate 32 (u8v 0)).toArray 34 (0, 0)) :: L)) bh ((addTo hv S i).map w32) := Cells.own (List.mem_append_right _ (List.mem_cons_of_mem _ (List.mem_append_right _ (List.mem_cons_of_mem _ List.mem_cons_self))))
                              refine gc_skip ?_
                              refine gk_then ?_
                              refine gc_seq ?_
                              refine gc_block ?_
                              refine gc_seq ?_
                              refine gc_seqr [(.mv, 0), (.mv, 1)] rfl ?_
                              refine gr_rd rfl rfl rfl (rd_move rfl) ?_
                              refine gr_rd rfl rfl rfl (rd_assign rfl) ?_
                              refine gr_nil ?_
                              refine gk_then ?_
                              refine gc_draw Tryd.mixed [(.mv, 0), (.mv, 1), (.mv, 2), (.mv, 3), (.mv, 4), (.mv, 5), (.mv, 6), (.mv, 7), (.mv, 8), (.mv, 9), (.mv, 10), (.mv, 11), (.fin, 12)] (by decide +kernel) _ (List.Sublist.refl _) ?_
                              refine gr_rd rfl rfl rfl (rd_move rfl) ?_
                              refine gr_rd rfl rfl rfl (rd_move rfl) ?_
                              refine gr_rd rfl rfl rfl (rd_move rfl) ?_
                              refine gr_rd rfl rfl rfl (rd_move rfl) ?_
                              refine gr_rd rfl rfl rfl (rd_indexS Tryd.underlying131 Tryd.sizeOf135 rfl rfl (by first | rfl | assumption) (by omega) (by omega)) ?_
                              refine gr_rd rfl rfl rfl (rd_load1 Tryd.to135 rfl hclh (w32_at2 (addTo hv S i) (j := i) (by rw [addTo_length hSl]; omega) rfl)) ?_
                              refine gr_rd rfl rfl rfl (rd_move rfl) ?_
                              refine gr_rd rfl rfl rfl (rd_move rfl) ?_
                              refine gr_rd rfl rfl rfl (rd_indexS Tryd.underlying131 Tryd.sizeOf135 rfl rfl (by first | rfl | assumption) (by omega) (by omega)) ?_
                              refine gr_rd rfl rfl rfl (rd_load1 Tryd.to135 rfl hclv hxi) ?_
                              (first | refine gr_rd rfl rfl rfl (rd_add32 rfl rfl) ?_ | refine gr_rd rfl rfl rfl (rd_add rfl rfl rfl) ?_)
                              refine gr_rd rfl rfl rfl (rd_indexS Tryd.underlying131 Tryd.sizeOf135 rfl rfl (by first | rfl | assumption) (by omega) (by omega)) ?_
                              refine gr_fin0 rfl rfl (nx_store (vs := [_]) Tryd.sizeOf135 rfl rfl rfl rfl (Upd.app (Upd.there (Upd.app (Upd.there Upd.here)))) (by simp [addTo_length hSl]; omega) (oneCells_of_all rfl)) ?_; rintro _ _ _ _ ⟨rfl, rfl, rfl⟩
                              refine gr_nil ?_
                              refine gk_inBlock ?_
                              refine gk_then ?_
                              refine gc_seqr [(.mv, 0), (.mv, 1)] rfl ?_
                              (first | refine gr_rd rfl rfl rfl (rd_add rfl rfl (IntWalk.i64_in _ (by omega))) ?_ | refine gr_rd rfl rfl rfl (rd_add rfl rfl rfl) ?_)
                              refine gr_rd rfl rfl rfl (rd_move rfl) ?_
                              refine gr_nil ?_
                              refine gk_round (i + 1) (by omega) ⟨rfl, ?_, by omega⟩ (by repeat (first | exact Subs.nil | refine Subs.cons rfl ?_))
                              rw [addTo_at hSl (by omega), addTo_next hSl (by omega)]
                            · have hi8 : i = 8 := by simp at hc7; omega
                              subst hi8
                              have hall : addTo hv S 8 = mixH hv p := by rw [hmix0, ← hv8]; exact addTo_all hSl
                              rw [hall]
                              refine gc_exit ?_
                              refine gk_exit_then ?_
                              refine gk_exit_then ?_
                              refine gk_here ?_
                              refine gk_inBlock ?_
                              refine gk_then ?_
                              refine gc_seqr [(.mv, 0), (.mv, 1), (.mv, 2)] rfl ?_
                              refine gr_rd rfl rfl rfl (rd_move rfl) ?_
                              (first | refine gr_rd rfl rfl rfl (rd_add rfl rfl (IntWalk.i64_in _ (by omega))) ?_ | refine gr_rd rfl rfl rfl (rd_add rfl rfl rfl) ?_)
                              refine gr_rd rfl rfl rfl (rd_assign rfl) ?_
                              refine gr_nil ?_
                              refine gk_drop (L' := C3 ++ (bk, .cells (roundK.map w32).toArray 135 (0, 0)) :: (bh, .cells ((mixH hv p).map w32).toArray 135 (0, 0)) :: (b2, .cells (List.replicate 32 (u8v 0)).toArray 34 (0, 0)) :: L) (by repeat (first | exact List.Sublist.refl _ | apply List.Sublist.cons_cons | apply List.Sublist.cons | apply List.Sublist.append (List.Sublist.refl _) | refine List.Sublist.trans ?_ (List.sublist_append_right _ _))) ?_
                              refine gk_round (k + 1, fu - 1, mixH hv p) ?_ ?_ (by refine Subs.cons rfl (Subs.cons rfl (Subs.cons rfl (Subs.cons rfl (Subs.cons ?_ Subs.nil)))); simp only [find, cond] <;> (congr 2 <;> omega))
                              · show (padded s).length - 64 * (k + 1) < (padded s).length - 64 * k
                                omega
                              · refine ⟨rfl, rfl, by simp only; omega, mixH_length _ _ hv8, by simp only; omega, ?_⟩
                                simp only
                                rw [← hbl, show fu = (fu - 1) + 1 by omega, blocksH_step hne, List.drop_drop, hp]; rfl
            · have hk64 : 64 * k = (padded s).length := by simp at hc2; omega
              rw [hk64, List.drop_length, blocksH_nil] at hbl
              refine gc_exit ?_
              refine gk_exit_then ?_
              refine gk_exit_then ?_
              refine gk_here ?_
              refine gk_then ?_
              refine gc_seq ?_
              refine gc_seqr [(.nm, 0)] rfl ?_
              refine gr_nx rfl rfl rfl (nx_alloc Tryd.zeroValue34 rfl) ?_; rintro _ _ _ _ ⟨b20, rfl, rfl, rfl⟩; refine ⟨trivial, ?_⟩
              refine gr_nil ?_
              refine gk_then ?_
              refine gc_seq ?_
              refine gc_seq ?_
              refine gc_seqr [(.mv, 0)] rfl ?_
              refine gr_rd rfl rfl rfl (rd_move rfl) ?_
              refine gr_nil ?_
              refine gk_then ?_
              refine gc_block ?_
              refine gc_loop (fun i : Nat => [(2, pt b2 0), (3, .slice (some ⟨bh, 0, none⟩) 8 8), (20, pt b20 0), (268, i64 i)]) (fun i H1 L1 => H = H1 ∧ (b20, .cells (((outB hv).take i ++ List.replicate (32 - i) 0).map u8v).toArray 34 (0, 0)) :: (C3 ++ (bk, .cells (roundK.map w32).toArray 135 (0, 0)) :: (bh, .cells (hv.map w32).toArray 135 (0, 0)) :: (b2, .cells (List.replicate 32 (u8v 0)).toArray 34 (0, 0)) :: L) = L1 ∧ i ≤ 32) (fun i => 32 - i) (0) ?_ (by repeat (first | exact Subs.nil | refine Subs.cons rfl ?_)) ?_
              · exact ⟨rfl, rfl, Nat.zero_le _⟩
              · rintro i H1 L1 ⟨rfl, rfl, hi⟩
                refine gc_seq ?_
                refine gc_seqr [(.mv, 0)] rfl ?_
                refine gr_rd rfl rfl rfl (rd_lss rfl rfl) ?_
                refine gr_nil ?_
                refine gk_then ?_
                refine gc_seq ?_
                refine gc_cond rfl (fun hc8 => ?_) (fun hc8 => ?_)
                · have hi32 : i < 32 := by simp at hc8; omega
                  have hclh : Cells H ((b20, .cells (((outB hv).take i ++ List.replicate (32 - i) 0).map u8v).toArray 34 (0, 0)) :: (C3 ++ (bk, .cells (roundK.map w32).toArray 135 (0, 0)) :: (bh, .cells (hv.map w32).toArray 135 (0, 0)) :: (b2, .cells (List.replicate 32 (u8v 0)).toArray 34 (0, 0)) :: L)) bh (hv.map w32) := Cells.own (List.mem_cons_of_mem _ (List.mem_append_right _ (List.mem_cons_of_mem _ List.mem_cons_self)))
                  refine gc_skip ?_
                  refine gk_then ?_
                  refine gc_seq ?_
                  refine gc_block ?_
                  refine gc_seq ?_
                  refine gc_seqr [(.mv, 0), (.mv, 1)] rfl ?_
                  refine gr_rd rfl rfl rfl (rd_move rfl) ?_
                  refine gr_rd rfl rfl rfl (rd_assign rfl) ?_
                  refine gr_nil ?_
                  refine gk_then ?_
                  refine gc_seqr [(.mv, 0), (.mv, 1), (.mv, 2), (.mv, 3), (.mv, 4), (.mv, 5), (.mv, 6), (.mv, 7), (.mv, 8), (.mv, 9), (.mv, 10), (.mv, 11), (.mv, 12), (.mv, 13), (.nm, 14)] rfl ?_
                  refine gr_rd rfl rfl rfl (rd_move rfl) ?_
                  refine gr_rd rfl rfl rfl (rd_move rfl) ?_
                  refine gr_rd rfl rfl rfl (rd_move rfl) ?_
                  refine gr_rd rfl rfl rfl (rd_quo rfl rfl (by omega) (r := ((i / 4 : Nat) : Int)) (by rw [IntWalk.i64_quo _ _ (by omega)]; omega)) ?_
                  refine gr_rd rfl rfl rfl (rd_indexS Tryd.underlying131 Tryd.sizeOf135 rfl rfl (by first | rfl | assumption) (by omega) (by omega)) ?_
                  refine gr_rd rfl rfl rfl (rd_load1 Tryd.to135 rfl hclh (w32_at2 hv (j := i / 4) (by omega) rfl)) ?_
                  refine gr_rd rfl rfl rfl (rd_move rfl) ?_
                  refine gr_rd rfl rfl rfl (rd_rem rfl rfl (by omega) (r := ((i % 4 : Nat) : Int)) (by rw [Int.tmod_eq_emod_of_nonneg (by omega)]; omega)) ?_
                  (first | refine gr_rd rfl rfl rfl (rd_mul rfl rfl (IntWalk.i64_in _ (by omega))) ?_ | refine gr_rd rfl rfl rfl (rd_mul rfl rfl rfl) ?_)
                  (first | refine gr_rd rfl rfl rfl (rd_sub rfl rfl (IntWalk.i64_in _ (by omega))) ?_ | refine gr_rd rfl rfl rfl (rd_sub rfl rfl rfl) ?_)
                  refine gr_rd rfl rfl rfl (rd_convInt Tryd.underlying3 Tryd.underlying39 rfl (r := ((24 - 8 * (i % 4) : Nat) : Int)) (by rw [IntKind.wrap_u64]; omega)) ?_
                  refine gr_rd rfl rfl rfl (rd_shr32 (k := 24 - 8 * (i % 4)) (by omega) rfl rfl rfl) ?_
                  refine gr_rd rfl rfl rfl (rd_conv32_8 Tryd.underlying135 Tryd.underlying5 rfl) ?_
                  refine gr_rd rfl rfl rfl (rd_indexA Tryd.underlying34 Tryd.sizeOf5 rfl rfl (by omega) (by omega)) ?_
                  refine gr_nx0 rfl rfl (nx_store (vs := [_]) Tryd.sizeOf5 rfl rfl rfl rfl Upd.here (by simp [outB_length, hv8] <;> omega) (oneCells_of_all rfl)) ?_; rintro _ _ _ _ ⟨rfl, rfl, rfl⟩; refine ⟨trivial, ?_⟩
                  refine gr_nil ?_
                  refine gk_inBlock ?_
                  refine gk_then ?_
                  refine gc_seqr [(.mv, 0), (.mv, 1)] rfl ?_
                  (first | refine gr_rd rfl rfl rfl (rd_add rfl rfl (IntWalk.i64_in _ (by omega))) ?_ | refine gr_rd rfl rfl rfl (rd_add rfl rfl rfl) ?_)
                  refine gr_rd rfl rfl rfl (rd_move rfl) ?_
                  refine gr_nil ?_
                  refine gk_round (i + 1) (by omega) ⟨rfl, ?_, by omega⟩ (by repeat (first | exact Subs.nil | refine Subs.cons rfl ?_))
                  rw [← outB_step hv8 hi32]
                · have hi32 : i = 32 := by simp at hc8; omega
                  subst hi32
                  have hout : ((outB hv).take 32 ++ List.replicate (32 - 32) 0).map u8v = encId (sha s) := by
                    rw [List.take_of_length_le (by rw [outB_length]; omega), hbl]
                    simp [encId, sha, shaB]
                  rw [hout]
                  refine gc_exit ?_
                  refine gk_exit_then ?_
                  refine gk_exit_then ?_
                  refine gk_here ?_
                  refine gk_then ?_
                  refine gc_seq ?_
                  refine gc_seqr [(.mv, 0), (.nm, 1)] rfl ?_
                  refine gr_rd rfl rfl rfl (rd_loadA Tryd.ta34 rfl ⟨_, _, .inr List.mem_cons_self⟩ (Seg.all _) (encId_length _)) ?_
                  refine gr_nx0 rfl rfl (nx_store (vs := encId (sha s)) Tryd.sizeOf34 rfl rfl rfl (encId_length _) (Upd.there (Upd.app (Upd.there (Upd.there Upd.here)))) (by simp) (encId_ones _)) ?_; rintro _ _ _ _ ⟨rfl, rfl, rfl⟩; refine ⟨trivial, ?_⟩
                  have hwr : wr (List.replicate 32 (u8v 0)) 0 (encId (sha s)) = encId (sha s) := by simp [wr]
                  rw [hwr]
                  refine gr_drop (L' := [(b2, .cells (encId (sha s)).toArray 34 (0, 0))] ++ L) (List.Sublist.cons _ ((List.Sublist.cons _ (List.Sublist.cons _ (List.Sublist.refl _))).trans (List.sublist_append_right _ _))) ?_
                  refine gr_nil ?_
                  refine gk_then ?_
                  refine gc_ret ?_
                  refine gk_result (L' := L) (.inl rfl) _ (resC1 rfl rfl Tryd.ta34 (by first | (apply Cells.own; (repeat (first | exact List.mem_cons_self | apply List.mem_cons_of_mem)); done) | assumption) (by first | exact Seg.all _ | exact Seg.head | assumption) (by first | exact encId_length _ | exact encOp_length _ _ | exact encDraft_length _ | rfl | simp)) (by repeat (first | exact List.Sublist.refl _ | apply List.Sublist.cons_cons | apply List.Sublist.cons | apply List.Sublist.append (List.Sublist.refl _) | refine List.Sublist.trans ?_ (List.sublist_append_right _ _))) (by first | exact Gh.le_refl _ | assumption | exact Gh.le_trans (by assumption) (by assumption)) ?_
                  exact ⟨rfl, rfl, rfl⟩
end Go.Proofs.YtfhldfjknagidaaDoor
