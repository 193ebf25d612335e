/-
  Walks: digests of byte strings.
-/
import Derived.Test.YtfhldfjknagidaaDoorVKs3
set_option linter.unusedSimpArgs false
set_option linter.unusedVariables false
namespace Go.Proofs.YtfhldfjknagidaaDoor
open Go.VK Go.Tr
set_option maxRecDepth 20000
/-- The given tables stand where they were laid. -/
structure Glob (H : Gh) : Prop where
  start : ∃ T z, H.imm 0 = some (.cells (startH.map w32).toArray T z)
  round : ∃ T z, H.imm 2 = some (.cells (roundK.map w32).toArray T z)
theorem Glob.mono {H H' : Gh} (h : Glob H) (hle : H ≤ H') : Glob H' :=
  ⟨let ⟨T, z, e⟩ := h.start; ⟨T, z, hle.imm _ _ e⟩, let ⟨T, z, e⟩ := h.round; ⟨T, z, hle.imm _ _ e⟩⟩
/-- How many bytes are lacking up to 56 behind a multiple of 64. -/
def gap (n : Nat) : Nat := (120 - n % 64) % 64
theorem gap_zero {n : Nat} (h : n % 64 = 56) : gap n = 0 := by unfold gap; omega
theorem gap_step {n : Nat} (h : n % 64 ≠ 56) : gap (n + 1) + 1 = gap n := by unfold gap; omega
theorem gap_lt (n : Nat) : gap n < 64 := Nat.mod_lt _ (by decide)
theorem padTo_done {k : Nat} {b : Bs} (h : b.length % 64 = 56) : padTo k b = b := by
  cases k with
  | zero => rfl
  | succ k => rw [padTo, if_pos h]
theorem padTo_step {k : Nat} {b : Bs} (h : b.length % 64 ≠ 56) : padTo (k + 1) b = padTo k (b ++ [0]) := by rw [padTo, if_neg h]
theorem padTo_mod : ∀ (k : Nat) (b : Bs), gap b.length ≤ k → (padTo k b).length % 64 = 56
  | 0, b, h => by rw [padTo]; unfold gap at h; omega
  | k + 1, b, h => by
    by_cases e : b.length % 64 = 56
    · rw [padTo_done e]; exact e
    · rw [padTo_step e]; refine padTo_mod k _ ?_; have := gap_step e; rw [List.length_append, List.length_singleton]; omega
theorem padTo_le : ∀ (k : Nat) (b : Bs), (padTo k b).length ≤ b.length + k
  | 0, b => Nat.le_refl _
  | k + 1, b => by
    rw [padTo]
    split
    · omega
    · have := padTo_le k (b ++ [0]); rw [List.length_append, List.length_singleton] at this; omega
theorem lenB_length (n : Nat) : (lenB n).length = 8 := by simp [lenB]
theorem padded_mod (s : Bs) : (padded s).length % 64 = 0 := by
  have := padTo_mod 64 (s ++ [128]) (Nat.le_of_lt (gap_lt _))
  rw [padded, List.length_append, lenB_length]; omega
theorem padded_le (s : Bs) : (padded s).length ≤ s.length + 73 := by
  have := padTo_le 64 (s ++ [128])
  rw [List.length_append, List.length_singleton] at this
  rw [padded, List.length_append, lenB_length]; omega
theorem lenB_take {n j : Nat} (h : j < 8) : (lenB n).take (j + 1) = (lenB n).take j ++ [UInt8.ofNat (n * 8 % 2 ^ 64 / 2 ^ (8 * (7 - j)))] := by
  rw [List.take_add_one]; congr 1
  simp [lenB, h]
theorem blocksH_nil (k : Nat) (h : List UInt32) : blocksH k h [] = h := by cases k <;> simp [blocksH]
theorem blocksH_step {k : Nat} {h : List UInt32} {b : Bs} (hb : b ≠ []) : blocksH (k + 1) h b = blocksH k (mixH h (b.take 64)) (b.drop 64) := by
  rw [blocksH, if_neg hb]
/-- The answer's first 4k bytes stand. -/
def outTo (h : List UInt32) (k : Nat) : List Value := (outB (h.take k) ++ List.replicate (32 - 4 * k) 0).map u8v
theorem outTo_length {h : List UInt32} (hh : h.length = 8) {k : Nat} (hk : k ≤ 8) : (outTo h k).length = 32 := by
  simp [outTo, outB_length, hh]; omega
theorem outB_take {h : List UInt32} {k : Nat} (hk : k < h.length) : outB (h.take (k + 1)) = outB (h.take k) ++ [(h.getD k 0 >>> 24).toUInt8] ++ [(h.getD k 0 >>> 16).toUInt8] ++ [(h.getD k 0 >>> 8).toUInt8] ++ [(h.getD k 0).toUInt8] := by
  rw [List.take_add_one, List.getElem?_eq_getElem hk]
  simp only [outB, List.flatMap_append, Option.toList_some, List.flatMap_cons, List.flatMap_nil, List.append_nil, List.append_assoc, List.cons_append, List.nil_append, List.getD_eq_getElem?_getD, List.getElem?_eq_getElem hk, Option.getD_some]
theorem out_next {h : List UInt32} (hh : h.length = 8) {k o0 o1 o2 o3 : Nat} (hk : k < 8) (h0 : o0 = 4 * k) (h1 : o1 = 4 * k + 1) (h2 : o2 = 4 * k + 2) (h3 : o3 = 4 * k + 3) :
    wr (wr (wr (wr (outTo h k) o0 [u8v (h.getD k 0 >>> 24).toUInt8]) o1 [u8v (h.getD k 0 >>> 16).toUInt8]) o2 [u8v (h.getD k 0 >>> 8).toUInt8]) o3 [u8v (h.getD k 0).toUInt8] = outTo h (k + 1) := by
  have hl : (outB (h.take k)).length = 4 * k := by rw [outB_length, List.length_take]; omega
  have e0 := wr_next u8v (outB (h.take k)) 0 (h.getD k 0 >>> 24).toUInt8 32 (by omega)
  have e1 := wr_next u8v (outB (h.take k) ++ [(h.getD k 0 >>> 24).toUInt8]) 0 (h.getD k 0 >>> 16).toUInt8 32 (by simp; omega)
  have e2 := wr_next u8v (outB (h.take k) ++ [(h.getD k 0 >>> 24).toUInt8] ++ [(h.getD k 0 >>> 16).toUInt8]) 0 (h.getD k 0 >>> 8).toUInt8 32 (by simp; omega)
  have e3 := wr_next u8v (outB (h.take k) ++ [(h.getD k 0 >>> 24).toUInt8] ++ [(h.getD k 0 >>> 16).toUInt8] ++ [(h.getD k 0 >>> 8).toUInt8]) 0 (h.getD k 0).toUInt8 32 (by simp; omega)
  simp only [List.length_append, List.length_singleton, hl] at e0 e1 e2 e3
  subst h0 h1 h2 h3
  rw [outTo, e0, e1, e2, e3, outTo, outB_take (by omega)]
  congr 3
theorem outTo_all {h : List UInt32} (hh : h.length = 8) : outTo h 8 = (outB h).map u8v := by
  rw [outTo, List.take_of_length_le (by omega)]; simp
theorem wr_len {l vs : List Value} {o : Nat} (h : o + vs.length ≤ l.length) : (wr l o vs).length = l.length := by simp [wr]; omega
theorem len_u64 {n : Nat} (h : n < 1099511627776) : IntKind.u64.wrap (n : Int) = (n : Int) := by rw [IntKind.wrap_u64]; omega
theorem len_u64m {n : Nat} : IntKind.u64.wrap ((n : Int) * 8) = ((n * 8 % 2 ^ 64 : Nat) : Int) := by rw [IntKind.wrap_u64]; omega
theorem len_shr {m j : Nat} {q : Int} (hq : q = ((8 * (7 - j) : Nat) : Int)) : Int.fdiv (m : Int) (2 ^ min (Int.toNat q) IntKind.u64.bits) = ((m / 2 ^ (8 * (7 - j)) : Nat) : Int) := by
  subst hq
  have : min (8 * (7 - j)) 64 = 8 * (7 - j) := by omega
  rw [Int.toNat_natCast, show IntKind.u64.bits = 64 from rfl, this, Int.fdiv_eq_ediv_of_nonneg _ (Int.pow_nonneg (by decide))]
  simp

theorem of_cc (H : Gh) (hG : Glob H) (L : Chunks) (s : Bs) (hs : s.length < 549755813888) :
    CC Tryd.prog 91 #[str s] H L (fun v H' L' => v = ag (encId (sha s)) ∧ H = H' ∧ L = L') := by
  obtain ⟨⟨Ts, zs, hGs⟩, Tr, zr, hGr⟩ := hG
  have hpl := padded_le s
  have hpm := padded_mod s
  refine cc_of Tryd.func91 rfl (Nat.le_of_ble_eq_true rfl) ?_
  simp only [Tryd.ntmps91]
  refine gc_seq ?_
  refine gc_seqr [(.nm, 0)] rfl ?_
  refine gr_nx rfl rfl rfl (nx_alloc Tryd.zeroValue34 rfl) ?_; rintro _ _ _ _ ⟨b2, rfl, rfl, rfl⟩; refine ⟨trivial, ?_⟩
  refine gr_nil ?_
  refine gk_then ?_
  refine gc_seq ?_
  refine gc_seqr [(.mv, 0), (.nm, 1), (.nm, 2)] rfl ?_
  refine gr_rd rfl rfl rfl (rd_loadA Tryd.ta151 rfl ⟨_, _, .inl hGs⟩ (Seg.all _) rfl) ?_
  refine gr_nx rfl rfl rfl (nx_alloc Tryd.zeroValue152 rfl) ?_; rintro _ _ _ _ ⟨b3, rfl, rfl, rfl⟩; refine ⟨trivial, ?_⟩
  refine gr_nx0 rfl rfl (nx_store (vs := startH.map w32) Tryd.sizeOf152 rfl rfl rfl rfl Upd.here (by simp [startH]) (oneCells_w32 _)) ?_; rintro _ _ _ _ ⟨rfl, rfl, rfl⟩; refine ⟨trivial, ?_⟩
  refine gr_nil ?_
  refine gk_then ?_
  refine gc_seq ?_
  refine gc_seqr [(.mv, 0), (.mv, 1), (.mv, 2)] rfl ?_
  refine gr_rd rfl rfl rfl (rd_move rfl) ?_
  refine gr_rd rfl rfl rfl (rd_lenL Tryd.underlying9 rfl) ?_
  refine gr_rd rfl rfl rfl (rd_assign rfl) ?_
  refine gr_nil ?_
  refine gk_then ?_
  refine gc_seq ?_
  refine gc_seqr [(.mv, 0), (.nm, 1), (.nm, 2), (.nm, 3), (.mv, 4)] rfl ?_
  refine gr_rd rfl rfl rfl (rd_move rfl) ?_
  refine gr_nx rfl rfl rfl (nx_convBytes Tryd.underlying9 Tryd.underlying117 Tryd.underlying5 rfl) ?_; rintro v14 H' L' hle ⟨C0, hO0, _, rfl, rfl⟩; refine ⟨trivial, ?_⟩
  refine gr_nx rfl rfl rfl (nx_slice1 (vs := [_]) Tryd.underlying117 Tryd.sizeOf5 Tryd.zeroValue5 rfl rfl rfl (by first | exact oneCells_of_all rfl | assumption) rfl rfl) ?_; rintro _ _ _ _ ⟨b15, rfl, rfl, rfl⟩; refine ⟨trivial, ?_⟩
  refine gr_nx rfl rfl rfl (nx_append Tryd.app117_117 rfl rfl hO0 (by repeat (first | exact Pick.here | exact Pick.one | apply Pick.there | apply Pick.app)) (src_one rfl (oneCells_of_all rfl) List.mem_cons_self) (by omega) (by omega)) ?_; rintro v16 H' L' hle ⟨C1, hO1, _, rfl, rfl⟩; refine ⟨trivial, ?_⟩
  refine gr_drop (L' := C1 ++ (b3, .cells (startH.map w32).toArray 152 (0, 0)) :: (b2, .cells (List.replicate 32 (u8v 0)).toArray 34 (0, 0)) :: L) (by repeat (first | exact List.Sublist.refl _ | apply List.Sublist.cons_cons | apply List.Sublist.cons | apply List.Sublist.append (List.Sublist.refl _) | refine List.Sublist.trans ?_ (List.sublist_append_right _ _))) ?_
  refine gr_rd rfl rfl rfl (rd_assign rfl) ?_
  refine gr_nil ?_
  refine gk_then ?_
  refine gc_seq ?_
  refine gc_block ?_
  refine gc_loop (fun t : Nat × Bs × Value × Chunks => [(2, pt b2 0), (3, pt b3 0), (4, i64 s.length), (5, t.2.2.1)]) (fun t H1 L1 => H = H1 ∧ L1 = t.2.2.2 ++ (b3, .cells (startH.map w32).toArray 152 (0, 0)) :: (b2, .cells (List.replicate 32 (u8v 0)).toArray 34 (0, 0)) :: L ∧ Ow 5 1 t.2.2.2 t.2.2.1 t.2.1.length (t.2.1.map u8v) ∧ padTo t.1 t.2.1 = padTo 64 (s ++ [128]) ∧ gap t.2.1.length ≤ t.1 ∧ t.1 ≤ 64 ∧ t.2.1.length ≤ s.length + 1 + (64 - t.1)) (fun t => gap t.2.1.length) ((64, s ++ [128], v16, C1)) ?_ (by repeat (first | exact Subs.nil | refine Subs.cons rfl ?_)) ?_
  · exact ⟨rfl, rfl, by simpa [u8v] using hO1, rfl, Nat.le_of_lt (gap_lt _), Nat.le_refl _, by simp⟩
  · rintro ⟨k, bs, vb, C⟩ H1 L1 ⟨rfl, rfl, hO, hd, hg, hk64, hl⟩
    simp only at hO hd hg hk64 hl
    show GC _ _ _ _ [(2, pt b2 0), (3, pt b3 0), (4, i64 s.length), (5, vb)] H (C ++ (b3, .cells (startH.map w32).toArray 152 (0, 0)) :: (b2, .cells (List.replicate 32 (u8v 0)).toArray 34 (0, 0)) :: L)
    obtain ⟨A, cap, rfl, hcap⟩ := hO.slice
    refine gc_seq ?_
    refine gc_seq ?_
    refine gc_seqr [(.mv, 0), (.mv, 1), (.mv, 2), (.mv, 3)] rfl ?_
    refine gr_rd rfl rfl rfl (rd_move rfl) ?_
    refine gr_rd rfl rfl rfl (rd_lenS Tryd.underlying117 rfl) ?_
    refine gr_rd rfl rfl rfl (rd_rem rfl rfl (by omega) (r := ((bs.length % 64 : Nat) : Int)) (by rw [Int.tmod_eq_emod_of_nonneg (by omega)]; omega)) ?_
    refine gr_rd rfl rfl rfl (rd_neq rfl rfl) ?_
    refine gr_nil ?_
    refine gk_then ?_
    refine gc_cond rfl (fun hc0 => ?_) (fun hc0 => ?_)
    · have hc : bs.length % 64 ≠ 56 := by simp at hc0; omega
      have hgs := gap_step hc
      have hgl := gap_lt bs.length
      refine gc_skip ?_
      refine gk_then ?_
      refine gc_block ?_
      refine gc_seqr [(.mv, 0), (.nm, 1), (.nm, 2), (.mv, 3)] rfl ?_
      refine gr_rd rfl rfl rfl (rd_move rfl) ?_
      refine gr_nx rfl rfl rfl (nx_slice1 (vs := [_]) Tryd.underlying117 Tryd.sizeOf5 Tryd.zeroValue5 rfl rfl rfl (by first | exact oneCells_of_all rfl | assumption) rfl rfl) ?_; rintro _ _ _ _ ⟨b22, rfl, rfl, rfl⟩; refine ⟨trivial, ?_⟩
      refine gr_nx rfl rfl rfl (nx_append Tryd.app117_117 rfl rfl hO (by repeat (first | exact Pick.here | exact Pick.one | apply Pick.there | apply Pick.app)) (src_one rfl (oneCells_of_all rfl) List.mem_cons_self) (by omega) (by omega)) ?_; rintro v23 H' L' hle ⟨C2, hO2, _, rfl, rfl⟩; refine ⟨trivial, ?_⟩
      refine gr_drop (L' := C2 ++ (b3, .cells (startH.map w32).toArray 152 (0, 0)) :: (b2, .cells (List.replicate 32 (u8v 0)).toArray 34 (0, 0)) :: L) (by repeat (first | exact List.Sublist.refl _ | apply List.Sublist.cons_cons | apply List.Sublist.cons | apply List.Sublist.append (List.Sublist.refl _) | refine List.Sublist.trans ?_ (List.sublist_append_right _ _))) ?_
      refine gr_rd rfl rfl rfl (rd_assign rfl) ?_
      refine gr_nil ?_
      refine gk_inBlock ?_
      refine gk_round (k - 1, bs ++ [0], _, C2) ?_ ?_ (by repeat (first | exact Subs.nil | refine Subs.cons rfl ?_))
      · show gap (bs ++ [0]).length < gap bs.length
        rw [List.length_append, List.length_singleton]; omega
      · refine ⟨rfl, rfl, by simpa [u8v] using hO2, ?_, ?_, by simp only; omega, ?_⟩
        · rw [← hd, show k = (k - 1) + 1 by omega, padTo_step hc]; rfl
        · simp only [List.length_append, List.length_singleton]; omega
        · simp only [List.length_append, List.length_singleton]; omega
    · have hc : bs.length % 64 = 56 := by simp at hc0; omega
      rw [padTo_done hc] at hd
      have hP : padded s = bs ++ lenB s.length := by rw [padded, ← hd]
      refine gc_exit ?_
      refine gk_exit_then ?_
      refine gk_exit_then ?_
      refine gk_here ?_
      refine gk_then ?_
      refine gc_seq ?_
      refine gc_seq ?_
      refine gc_seqr [(.mv, 0)] rfl ?_
      refine gr_rd rfl rfl rfl (rd_assign rfl) ?_
      refine gr_nil ?_
      refine gk_then ?_
      refine gc_block ?_
      refine gc_loop (fun t : Nat × Value × Chunks => [(2, pt b2 0), (3, pt b3 0), (4, i64 s.length), (5, t.2.1), (6, i64 (7 - (t.1 : Int)))]) (fun t H1 L1 => H = H1 ∧ L1 = t.2.2 ++ (b3, .cells (startH.map w32).toArray 152 (0, 0)) :: (b2, .cells (List.replicate 32 (u8v 0)).toArray 34 (0, 0)) :: L ∧ t.1 ≤ 8 ∧ Ow 5 1 t.2.2 t.2.1 (bs.length + t.1) ((bs ++ (lenB s.length).take t.1).map u8v)) (fun t => 8 - t.1) ((0, .slice A bs.length cap, C)) ?_ (by repeat (first | exact Subs.nil | refine Subs.cons rfl ?_)) ?_
      · exact ⟨rfl, rfl, Nat.zero_le _, by simpa using hO⟩
      · rintro ⟨j, vb, C3⟩ H1 L1 ⟨rfl, rfl, hj, hO3⟩
        simp only at hj hO3
        show GC _ _ _ _ [(2, pt b2 0), (3, pt b3 0), (4, i64 s.length), (5, vb), (6, i64 (7 - (j : Int)))] H (C3 ++ (b3, .cells (startH.map w32).toArray 152 (0, 0)) :: (b2, .cells (List.replicate 32 (u8v 0)).toArray 34 (0, 0)) :: L)
        refine gc_seq ?_
        refine gc_seq ?_
        refine gc_seqr [(.mv, 0), (.mv, 1)] rfl ?_
        refine gr_rd rfl rfl rfl (rd_move rfl) ?_
        refine gr_rd rfl rfl rfl (rd_geq rfl rfl) ?_
        refine gr_nil ?_
        refine gk_then ?_
        refine gc_cond rfl (fun hc1 => ?_) (fun hc1 => ?_)
        · have hj8 : j < 8 := by simp at hc1; omega
          refine gc_skip ?_
          refine gk_then ?_
          refine gc_seq ?_
          refine gc_block ?_
          refine gc_seqr [(.mv, 0), (.mv, 1), (.mv, 2), (.mv, 3), (.mv, 4), (.mv, 5), (.mv, 6), (.mv, 7), (.nm, 8), (.nm, 9), (.mv, 10)] rfl ?_
          refine gr_rd rfl rfl rfl (rd_move rfl) ?_
          refine gr_rd rfl rfl rfl (rd_move rfl) ?_
          refine gr_rd rfl rfl rfl (rd_convInt Tryd.underlying3 Tryd.underlying134 rfl (len_u64 (by omega))) ?_
          refine gr_rd rfl rfl rfl (rd_mul rfl rfl len_u64m) ?_
          refine gr_rd rfl rfl rfl (rd_move rfl) ?_
          (first | refine gr_rd rfl rfl rfl (rd_mul rfl rfl (IntWalk.i64_in _ (by omega))) ?_ | refine gr_rd rfl rfl rfl (rd_mul rfl rfl rfl) ?_)
          refine gr_rd rfl rfl rfl (rd_shr rfl rfl (by omega) (len_shr (j := j) (by omega))) ?_
          refine gr_rd rfl rfl rfl (rd_convInt Tryd.underlying134 Tryd.underlying5 rfl (u8_of _)) ?_
          refine gr_nx rfl rfl rfl (nx_slice1 (vs := [_]) Tryd.underlying117 Tryd.sizeOf5 Tryd.zeroValue5 rfl rfl rfl (by first | exact oneCells_of_all rfl | assumption) rfl rfl) ?_; rintro _ _ _ _ ⟨b36, rfl, rfl, rfl⟩; refine ⟨trivial, ?_⟩
          refine gr_nx rfl rfl rfl (nx_append Tryd.app117_117 rfl rfl hO3 (by repeat (first | exact Pick.here | exact Pick.one | apply Pick.there | apply Pick.app)) (src_one rfl (oneCells_of_all rfl) List.mem_cons_self) (by omega) (by omega)) ?_; rintro v37 H' L' hle ⟨C4, hO4, _, rfl, rfl⟩; refine ⟨trivial, ?_⟩
          refine gr_drop (L' := C4 ++ (b3, .cells (startH.map w32).toArray 152 (0, 0)) :: (b2, .cells (List.replicate 32 (u8v 0)).toArray 34 (0, 0)) :: L) (by repeat (first | exact List.Sublist.refl _ | apply List.Sublist.cons_cons | apply List.Sublist.cons | apply List.Sublist.append (List.Sublist.refl _) | refine List.Sublist.trans ?_ (List.sublist_append_right _ _))) ?_
          refine gr_rd rfl rfl rfl (rd_assign rfl) ?_
          refine gr_nil ?_
          refine gk_inBlock ?_
          refine gk_then ?_
          refine gc_seqr [(.mv, 0), (.mv, 1), (.mv, 2)] rfl ?_
          refine gr_rd rfl rfl rfl (rd_move rfl) ?_
          (first | refine gr_rd rfl rfl rfl (rd_sub rfl rfl (IntWalk.i64_in _ (by omega))) ?_ | refine gr_rd rfl rfl rfl (rd_sub rfl rfl rfl) ?_)
          refine gr_rd rfl rfl rfl (rd_assign rfl) ?_
          refine gr_nil ?_
          refine gk_round (j + 1, _, C4) ?_ ?_ (by repeat (first | exact Subs.nil | refine Subs.cons (by first | rfl | (simp [find]; omega)) ?_))
          · show 8 - (j + 1) < 8 - j
            omega
          · refine ⟨rfl, rfl, by simp only; omega, ?_⟩
            simp only
            rw [lenB_take hj8]
            simpa [u8v, Nat.add_assoc] using hO4
        · have hj8 : j = 8 := by simp at hc1; omega
          subst hj8
          rw [List.take_of_length_le (by rw [lenB_length]; omega), ← hP] at hO3
          have hPl : (padded s).length = bs.length + 8 := by rw [hP, List.length_append, lenB_length]
          rw [← hPl] at hO3
          obtain ⟨A2, cap2, rfl, hcap2⟩ := hO3.slice
          obtain ⟨bb, lb, rfl, hcb, hsb⟩ := hO3.elem (by omega)
          refine gc_perm (L' := (b3, .cells (startH.map w32).toArray 152 (0, 0)) :: (C3 ++ (b2, .cells (List.replicate 32 (u8v 0)).toArray 34 (0, 0)) :: L)) List.perm_middle ?_
          refine gc_exit ?_
          refine gk_exit_then ?_
          refine gk_exit_then ?_
          refine gk_here ?_
          refine gk_then ?_
          refine gc_seq ?_
          refine gc_block ?_
          refine gc_loop (fun t : Nat × Nat × Nat × Nat × List UInt32 => [(2, pt b2 0), (3, pt b3 0), (5, .slice (some ⟨bb, t.2.1, none⟩) ((padded s).length - 64 * t.1) t.2.2.1)]) (fun t H1 L1 => H = H1 ∧ L1 = (b3, .cells (t.2.2.2.2.map w32).toArray 152 (0, 0)) :: (C3 ++ (b2, .cells (List.replicate 32 (u8v 0)).toArray 34 (0, 0)) :: L) ∧ 64 * t.1 ≤ (padded s).length ∧ (64 * t.1 < (padded s).length → t.2.1 = 64 * t.1) ∧ (padded s).length - 64 * t.1 ≤ t.2.2.1 ∧ t.2.2.2.2.length = 8 ∧ (padded s).length - 64 * t.1 ≤ t.2.2.2.1 ∧ blocksH t.2.2.2.1 t.2.2.2.2 ((padded s).drop (64 * t.1)) = blocksH (padded s).length startH (padded s)) (fun t => (padded s).length - 64 * t.1) ((0, 0, cap2, (padded s).length, startH)) ?_ (by repeat (first | exact Subs.nil | refine Subs.cons rfl ?_)) ?_
          · exact ⟨rfl, rfl, Nat.zero_le _, fun _ => rfl, hcap2, rfl, Nat.le_refl _, rfl⟩
          · rintro ⟨k, off, cp, fu, hv⟩ H1 L1 ⟨rfl, rfl, hk, hoff, hcp, hv8, hfu, hbl⟩
            simp only at hk hoff hcp hv8 hfu hbl
            show GC _ _ _ _ [(2, pt b2 0), (3, pt b3 0), (5, .slice (some ⟨bb, off, none⟩) ((padded s).length - 64 * k) cp)] H ((b3, .cells (hv.map w32).toArray 152 (0, 0)) :: (C3 ++ (b2, .cells (List.replicate 32 (u8v 0)).toArray 34 (0, 0)) :: L))
            refine gc_seq ?_
            refine gc_seq ?_
            refine gc_seqr [(.mv, 0), (.mv, 1), (.mv, 2)] rfl ?_
            refine gr_rd rfl rfl rfl (rd_move rfl) ?_
            refine gr_rd rfl rfl rfl (rd_lenS Tryd.underlying117 rfl) ?_
            refine gr_rd rfl rfl rfl (rd_gtr rfl rfl) ?_
            refine gr_nil ?_
            refine gk_then ?_
            refine gc_cond rfl (fun hc2 => ?_) (fun hc2 => ?_)
            · have hk64 : 64 * k < (padded s).length := by simp at hc2; omega
              have hoff := hoff hk64
              subst hoff
              have hne : (padded s).drop (64 * k) ≠ [] := by intro e; have := congrArg List.length e; simp at this; omega
              have hseg : Seg lb (64 * k) ((((padded s).drop (64 * k)).take 64).map u8v) := by
                intro j v hj
                have hj2 : j < 64 := by have := (List.getElem?_eq_some_iff.1 hj).1; simp at this; omega
                have h2 := hsb (64 * k + j) v (by simpa [List.getElem?_take, hj2] using hj)
                simpa using h2
              have hcl : Cells H (C3 ++ (b2, .cells (List.replicate 32 (u8v 0)).toArray 34 (0, 0)) :: L) bb lb := hcb _ _ (fun x hx => List.mem_append_left _ hx)
              refine gc_skip ?_
              refine gk_then ?_
              refine gc_seq ?_
              refine gc_block ?_
              refine gc_seqr [(.mv, 0), (.mv, 1), (.nm, 2)] rfl ?_
              refine gr_rd rfl rfl rfl (rd_move rfl) ?_
              refine gr_rd rfl rfl rfl (rd_sliceHi Tryd.underlying117 Tryd.sizeOf5 rfl rfl (h := 64) rfl (by omega)) ?_
              refine gr_nx rfl rfl rfl (nx_call Tryd.en114 rfl (mix_cc H hGr _ hv hv8 b3 _ bb (64 * k) cp lb (((padded s).drop (64 * k)).take 64) (by simp; omega) hcl hseg)) ?_; rintro v45 H' L' hle ⟨rfl, rfl⟩; refine ⟨trivial, ?_⟩
              refine gr_nil ?_
              refine gk_inBlock ?_
              refine gk_then ?_
              refine gc_seqr [(.mv, 0), (.mv, 1), (.mv, 2)] rfl ?_
              refine gr_rd rfl rfl rfl (rd_move rfl) ?_
              refine gr_rd rfl rfl rfl (rd_sliceLo Tryd.underlying117 Tryd.sizeOf5 rfl rfl (l := 64) rfl (by omega) (by omega)) ?_
              refine gr_rd rfl rfl rfl (rd_assign rfl) ?_
              refine gr_nil ?_
              refine gk_round (k + 1, (if cp = 64 then 64 * k else 64 * k + 64 * 1), cp - 64, fu - 1, mixH hv (((padded s).drop (64 * k)).take 64)) ?_ ?_ (by refine Subs.cons rfl (Subs.cons rfl (Subs.cons ?_ Subs.nil)); simp only [find, cond]; rw [Nat.sub_sub, Nat.mul_add])
              · show (padded s).length - 64 * (k + 1) < (padded s).length - 64 * k
                omega
              · refine ⟨rfl, rfl, by simp only; omega, fun h => ?_, by simp only; omega, mixH_length _ _ hv8, by simp only; omega, ?_⟩
                · simp only at h ⊢
                  rw [if_neg (by omega)]; omega
                · simp only
                  rw [← hbl, show fu = (fu - 1) + 1 by omega, blocksH_step hne, List.drop_drop]; rfl
            · have hk64 : 64 * k = (padded s).length := by simp at hc2; omega
              rw [hk64, List.drop_length, blocksH_nil] at hbl
              refine gc_drop (L' := [(b3, .cells (hv.map w32).toArray 152 (0, 0)), (b2, .cells (List.replicate 32 (u8v 0)).toArray 34 (0, 0))] ++ L) (List.Sublist.cons_cons _ (List.sublist_append_right _ _)) ?_
              refine gc_exit ?_
              refine gk_exit_then ?_
              refine gk_exit_then ?_
              refine gk_here ?_
              refine gk_then ?_
              refine gc_seq ?_
              refine gc_seqr [(.nm, 0)] rfl ?_
              refine gr_nx rfl rfl rfl (nx_alloc Tryd.zeroValue34 rfl) ?_; rintro _ _ _ _ ⟨b7, rfl, rfl, rfl⟩; refine ⟨trivial, ?_⟩
              refine gr_nil ?_
              refine gk_then ?_
              refine gc_seq ?_
              refine gc_seq ?_
              refine gc_seqr [(.mv, 0), (.mv, 1)] rfl ?_
              refine gr_rd rfl rfl rfl (rd_loadA Tryd.ta152 rfl ⟨_, _, .inr (List.mem_cons_of_mem _ List.mem_cons_self)⟩ (Seg.all _) (by rw [List.length_map, hv8])) ?_
              refine gr_rd rfl rfl rfl (rd_move rfl) ?_
              refine gr_nil ?_
              refine gk_then ?_
              refine gc_block ?_
              refine gc_loop (fun k : Nat => [(2, pt b2 0), (7, pt b7 0), (46, ag (hv.map w32)), (47, i64 k)]) (fun k H1 L1 => H = H1 ∧ (b7, .cells (outTo hv k).toArray 34 (0, 0)) :: (b3, .cells (hv.map w32).toArray 152 (0, 0)) :: (b2, .cells (List.replicate 32 (u8v 0)).toArray 34 (0, 0)) :: L = L1 ∧ k ≤ 8) (fun k => 8 - k) (0) ?_ (by repeat (first | exact Subs.nil | refine Subs.cons rfl ?_)) ?_
              · exact ⟨rfl, rfl, Nat.zero_le _⟩
              · rintro k H1 L1 ⟨rfl, rfl, hk⟩
                refine gc_seq ?_
                refine gc_seqr [(.mv, 0)] rfl ?_
                refine gr_rd rfl rfl rfl (rd_lss rfl rfl) ?_
                refine gr_nil ?_
                refine gk_then ?_
                refine gc_seq ?_
                refine gc_cond rfl (fun hc3 => ?_) (fun hc3 => ?_)
                · have hk8 : k < 8 := by simp at hc3; omega
                  have hol := outTo_length hv8 (k := k) (by omega)
                  refine gc_skip ?_
                  refine gk_then ?_
                  refine gc_seq ?_
                  refine gc_block ?_
                  refine gc_seq ?_
                  refine gc_seqr [(.mv, 0), (.mv, 1), (.mv, 2), (.mv, 3)] rfl ?_
                  refine gr_rd rfl rfl rfl (rd_move rfl) ?_
                  refine gr_rd rfl rfl rfl (rd_indexArr1 Tryd.underlying152 Tryd.to135 rfl rfl (by omega) (by omega) (by rw [Int.toNat_natCast]; exact w32_at hv (by omega))) ?_
                  refine gr_rd rfl rfl rfl (rd_assign rfl) ?_
                  refine gr_rd rfl rfl rfl (rd_assign rfl) ?_
                  refine gr_nil ?_
                  refine gk_then ?_
                  refine gc_seqr [(.mv, 0), (.mv, 1), (.mv, 2), (.mv, 3), (.mv, 4), (.mv, 5), (.mv, 6), (.mv, 7), (.mv, 8), (.mv, 9), (.mv, 10), (.mv, 11), (.mv, 12), (.mv, 13), (.mv, 14), (.mv, 15), (.mv, 16), (.mv, 17), (.mv, 18), (.mv, 19), (.mv, 20), (.mv, 21), (.mv, 22), (.nm, 23), (.mv, 24), (.nm, 25), (.mv, 26), (.nm, 27), (.mv, 28), (.nm, 29)] rfl ?_
                  refine gr_rd rfl rfl rfl (rd_move rfl) ?_
                  (first | refine gr_rd rfl rfl rfl (rd_mul rfl rfl (IntWalk.i64_in _ (by omega))) ?_ | refine gr_rd rfl rfl rfl (rd_mul rfl rfl rfl) ?_)
                  refine gr_rd rfl rfl rfl (rd_move rfl) ?_
                  (first | refine gr_rd rfl rfl rfl (rd_mul rfl rfl (IntWalk.i64_in _ (by omega))) ?_ | refine gr_rd rfl rfl rfl (rd_mul rfl rfl rfl) ?_)
                  (first | refine gr_rd rfl rfl rfl (rd_add rfl rfl (IntWalk.i64_in _ (by omega))) ?_ | refine gr_rd rfl rfl rfl (rd_add rfl rfl rfl) ?_)
                  refine gr_rd rfl rfl rfl (rd_move rfl) ?_
                  (first | refine gr_rd rfl rfl rfl (rd_mul rfl rfl (IntWalk.i64_in _ (by omega))) ?_ | refine gr_rd rfl rfl rfl (rd_mul rfl rfl rfl) ?_)
                  (first | refine gr_rd rfl rfl rfl (rd_add rfl rfl (IntWalk.i64_in _ (by omega))) ?_ | refine gr_rd rfl rfl rfl (rd_add rfl rfl rfl) ?_)
                  refine gr_rd rfl rfl rfl (rd_move rfl) ?_
                  (first | refine gr_rd rfl rfl rfl (rd_mul rfl rfl (IntWalk.i64_in _ (by omega))) ?_ | refine gr_rd rfl rfl rfl (rd_mul rfl rfl rfl) ?_)
                  (first | refine gr_rd rfl rfl rfl (rd_add rfl rfl (IntWalk.i64_in _ (by omega))) ?_ | refine gr_rd rfl rfl rfl (rd_add rfl rfl rfl) ?_)
                  refine gr_rd rfl rfl rfl (rd_move rfl) ?_
                  refine gr_rd rfl rfl rfl (rd_shr32 (k := 24) (by decide) rfl rfl rfl) ?_
                  refine gr_rd rfl rfl rfl (rd_conv32_8 Tryd.underlying135 Tryd.underlying5 rfl) ?_
                  refine gr_rd rfl rfl rfl (rd_move rfl) ?_
                  refine gr_rd rfl rfl rfl (rd_shr32 (k := 16) (by decide) rfl rfl rfl) ?_
                  refine gr_rd rfl rfl rfl (rd_conv32_8 Tryd.underlying135 Tryd.underlying5 rfl) ?_
                  refine gr_rd rfl rfl rfl (rd_move rfl) ?_
                  refine gr_rd rfl rfl rfl (rd_shr32 (k := 8) (by decide) rfl rfl rfl) ?_
                  refine gr_rd rfl rfl rfl (rd_conv32_8 Tryd.underlying135 Tryd.underlying5 rfl) ?_
                  refine gr_rd rfl rfl rfl (rd_move rfl) ?_
                  refine gr_rd rfl rfl rfl (rd_conv32_8 Tryd.underlying135 Tryd.underlying5 rfl) ?_
                  refine gr_rd rfl rfl rfl (rd_indexA Tryd.underlying34 Tryd.sizeOf5 rfl rfl (by omega) (by omega)) ?_
                  refine gr_nx0 rfl rfl (nx_store (vs := [_]) Tryd.sizeOf5 rfl rfl rfl rfl Upd.here (by simp [hol]; omega) (oneCells_of_all rfl)) ?_; rintro _ _ _ _ ⟨rfl, rfl, rfl⟩; refine ⟨trivial, ?_⟩
                  refine gr_rd rfl rfl rfl (rd_indexA Tryd.underlying34 Tryd.sizeOf5 rfl rfl (by omega) (by omega)) ?_
                  refine gr_nx0 rfl rfl (nx_store (vs := [_]) Tryd.sizeOf5 rfl rfl rfl rfl Upd.here (by rw [wr_len (by simp [hol]; omega)]; simp [hol]; omega) (oneCells_of_all rfl)) ?_; rintro _ _ _ _ ⟨rfl, rfl, rfl⟩; refine ⟨trivial, ?_⟩
                  refine gr_rd rfl rfl rfl (rd_indexA Tryd.underlying34 Tryd.sizeOf5 rfl rfl (by omega) (by omega)) ?_
                  refine gr_nx0 rfl rfl (nx_store (vs := [_]) Tryd.sizeOf5 rfl rfl rfl rfl Upd.here (by rw [wr_len (by rw [wr_len (by simp [hol]; omega)]; simp [hol]; omega), wr_len (by simp [hol]; omega)]; simp [hol]; omega) (oneCells_of_all rfl)) ?_; rintro _ _ _ _ ⟨rfl, rfl, rfl⟩; refine ⟨trivial, ?_⟩
                  refine gr_rd rfl rfl rfl (rd_indexA Tryd.underlying34 Tryd.sizeOf5 rfl rfl (by omega) (by omega)) ?_
                  refine gr_nx0 rfl rfl (nx_store (vs := [_]) Tryd.sizeOf5 rfl rfl rfl rfl Upd.here (by rw [wr_len (by rw [wr_len (by rw [wr_len (by simp [hol]; omega)]; simp [hol]; omega), wr_len (by simp [hol]; omega)]; simp [hol]; omega), wr_len (by rw [wr_len (by simp [hol]; omega)]; simp [hol]; omega), wr_len (by simp [hol]; omega)]; simp [hol]; omega) (oneCells_of_all rfl)) ?_; rintro _ _ _ _ ⟨rfl, rfl, rfl⟩; refine ⟨trivial, ?_⟩
                  refine gr_nil ?_
                  refine gk_inBlock ?_
                  refine gk_then ?_
                  refine gc_seqr [(.mv, 0), (.mv, 1)] rfl ?_
                  (first | refine gr_rd rfl rfl rfl (rd_add rfl rfl (IntWalk.i64_in _ (by omega))) ?_ | refine gr_rd rfl rfl rfl (rd_add rfl rfl rfl) ?_)
                  refine gr_rd rfl rfl rfl (rd_move rfl) ?_
                  refine gr_nil ?_
                  refine gk_round (k + 1) (by omega) ⟨rfl, ?_, by omega⟩ (by repeat (first | exact Subs.nil | refine Subs.cons rfl ?_))
                  rw [← out_next hv8 hk8 (o0 := 0 + (4 * (k : Int)).toNat * 1) (o1 := 0 + (4 * (k : Int) + 1).toNat * 1) (o2 := 0 + (4 * (k : Int) + 2).toNat * 1) (o3 := 0 + (4 * (k : Int) + 3).toNat * 1) (by omega) (by omega) (by omega) (by omega)]
                  rfl
                · have hk8 : k = 8 := by simp at hc3; omega
                  subst hk8
                  have hout : outTo hv 8 = encId (sha s) := by rw [outTo_all hv8, hbl]; rfl
                  rw [hout]
                  refine gc_exit ?_
                  refine gk_exit_then ?_
                  refine gk_exit_then ?_
                  refine gk_here ?_
                  refine gk_then ?_
                  refine gc_seq ?_
                  refine gc_seqr [(.mv, 0), (.nm, 1)] rfl ?_
                  refine gr_rd rfl rfl rfl (rd_loadA Tryd.ta34 rfl ⟨_, _, .inr List.mem_cons_self⟩ (Seg.all _) (encId_length _)) ?_
                  refine gr_nx0 rfl rfl (nx_store (vs := encId (sha s)) Tryd.sizeOf34 rfl rfl rfl (encId_length _) (Upd.there (Upd.there Upd.here)) (by simp) (encId_ones _)) ?_; rintro _ _ _ _ ⟨rfl, rfl, rfl⟩; refine ⟨trivial, ?_⟩
                  have hwr : wr (List.replicate 32 (u8v 0)) 0 (encId (sha s)) = encId (sha s) := by simp [wr]
                  rw [hwr]
                  refine gr_nil ?_
                  refine gk_then ?_
                  refine gc_ret ?_
                  refine gk_result (L' := L) (.inl rfl) _ (resC1 rfl rfl Tryd.ta34 (by first | (apply Cells.own; (repeat (first | exact List.mem_cons_self | apply List.mem_cons_of_mem)); done) | assumption) (by first | exact Seg.all _ | exact Seg.head | assumption) (by first | exact encId_length _ | exact encOp_length _ _ | exact encDraft_length _ | rfl | simp)) (by repeat (first | exact List.Sublist.refl _ | apply List.Sublist.cons_cons | apply List.Sublist.cons | apply List.Sublist.append (List.Sublist.refl _) | refine List.Sublist.trans ?_ (List.sublist_append_right _ _))) (by first | exact Gh.le_refl _ | assumption | exact Gh.le_trans (by assumption) (by assumption)) ?_
                  exact ⟨rfl, rfl, rfl⟩
end Go.Proofs.YtfhldfjknagidaaDoor
