/-
  Walks: numbers, texts and lists as bytes.
-/
import Derived.Test.YtfhldfjknagidaaDoorVKs1
set_option linter.unusedSimpArgs false
set_option linter.unusedVariables false
namespace Go.Proofs.YtfhldfjknagidaaDoor
open Go.VK Go.Tr
set_option maxRecDepth 20000
theorem src_one {P : Program} {H : Gh} {L : Chunks} {k m cap b : Nat} {T : TypeId} {z : Nat × Nat} {l : List Value} (hn : l.length = m * k) (h1 : oneCells l) (hm : (b, Obj.cells l.toArray T z) ∈ L) :
    Src P H L k (.slice (some ⟨b, 0, none⟩) m cap) m l := src_slice (b := b) (o := 0) (l := l) hn h1 (fun h => by cases h) (fun _ _ => ⟨rfl, ⟨T, z, .inr hm⟩, Seg.all _⟩)
theorem digits_step {k x : Nat} (hx : 0 < x) (hk : 0 < k) : digits k x = digits (k - 1) (x / 256) ++ [UInt8.ofNat x] := by
  obtain ⟨j, rfl⟩ : ∃ j, k = j + 1 := ⟨k - 1, by omega⟩
  simp [digits, Nat.ne_of_gt hx]
theorem digits_zero (k : Nat) : digits k 0 = [] := by cases k <;> simp [digits]
theorem u8_of (x : Nat) : IntKind.u8.wrap (x : Int) = ((UInt8.ofNat x).toNat : Int) := by
  rw [IntKind.wrap_u8]; simp
theorem shr8 (x : Nat) : Int.fdiv (x : Int) (2 ^ min (Int.toNat 8) IntKind.i64.bits) = ((x / 256 : Nat) : Int) := by
  have : (2 : Int) ^ min (Int.toNat 8) IntKind.i64.bits = 256 := by decide
  rw [this, Int.fdiv_eq_ediv_of_nonneg _ (by omega)]; omega
theorem pow_step {x k : Nat} (hx : 0 < x) (hlt : x < 256 ^ k) : 0 < k ∧ x / 256 < 256 ^ (k - 1) := by
  cases k with
  | zero => simp at hlt; omega
  | succ k => exact ⟨by omega, by rw [Nat.add_sub_cancel]; rw [Nat.pow_succ] at hlt; omega⟩
theorem map_u8 (l : List UInt8) (j : Nat) (h : j < l.length) : (l.map u8v)[j]? = some (u8v l[j]) := by simp [h]
theorem take_back (bs : List UInt8) (j : Nat) (h1 : 1 ≤ j) (h2 : j ≤ bs.length) : bs.reverse.take (bs.length - (j - 1)) = bs.reverse.take (bs.length - j) ++ [bs[j - 1]'(by omega)] := by
  rw [show bs.length - (j - 1) = (bs.length - j) + 1 by omega, List.take_add_one]
  congr 1
  rw [List.getElem?_eq_getElem (by simp; omega)]
  simp only [Option.toList_some, List.getElem_reverse]
  congr 2
  omega
theorem sl_at {α : Type} {enc : α → List Value} {k b off : Nat} {H : Gh} {L : Chunks} {xs : List α} {l : List Value} {a : Option Addr} (h1 : xs ≠ [] → a = some ⟨b, off, none⟩ ∧ Cells H L b l) (h2 : ∀ j x, xs[j]? = some x → Seg l (off + j * k) (enc x)) {j : Nat} (hj : j < xs.length) :
    a = some ⟨b, off, none⟩ ∧ Cells H L b l ∧ Seg l (off + j * k) (enc xs[j]) :=
  ⟨(h1 (List.ne_nil_of_length_pos (by omega))).1, (h1 (List.ne_nil_of_length_pos (by omega))).2, h2 j _ (List.getElem?_eq_getElem hj)⟩
theorem digits_len : ∀ (k n : Nat), (digits k n).length ≤ k
  | 0, _ => Nat.le_refl _
  | k + 1, n => by
    unfold digits
    split
    · simp
    · have := digits_len k (n / 256); simp; omega
theorem numB_len (n : Nat) : (numB n).length ≤ 10 := by have := digits_len 9 n; simp [numB]; omega
theorem flat_take (ls : List Bs) (k : Nat) (hk : k < ls.length) : (ls.take (k + 1)).flatMap textB = (ls.take k).flatMap textB ++ (numB ls[k].length ++ ls[k]) := by
  rw [List.take_add_one, List.getElem?_eq_getElem hk]
  simp only [Option.toList_some, List.flatMap_append, List.flatMap_cons, List.flatMap_nil, List.append_nil, textB]
theorem flat_le (ls : List Bs) (k : Nat) : ((ls.take k).flatMap textB).length ≤ (ls.flatMap textB).length := by
  have := congrArg (fun l => (l.flatMap textB).length) (List.take_append_drop k ls)
  simp only [List.flatMap_append, List.length_append] at this
  omega
theorem seg_one {l : List Value} {o : Nat} {v : Value} (h : Seg l o [v]) : l[o]? = some v := by simpa using h 0 v rfl

theorem num_cc (H : Gh) (L : Chunks) (n : Int) (hn : n < 9223372036854775808) :
    CC Tryd.prog 93 #[i64 n] H L (fun v H' L' => v = str (numB n.toNat) ∧ H = H' ∧ L = L') := by
  refine cc_of Tryd.func93 rfl (Nat.le_of_ble_eq_true rfl) ?_
  simp only [Tryd.ntmps93]
  refine gc_seq ?_
  refine gc_seqr [(.mv, 0)] rfl ?_
  refine gr_rd rfl rfl rfl (rd_assign rfl) ?_
  refine gr_nil ?_
  refine gk_then ?_
  refine gc_seq ?_
  refine gc_seqr [(.mv, 0)] rfl ?_
  refine gr_rd rfl rfl rfl (rd_assign rfl) ?_
  refine gr_nil ?_
  refine gk_then ?_
  refine gc_seq ?_
  refine gc_seq ?_
  refine gc_seqr [(.mv, 0), (.mv, 1), (.mv, 2)] rfl ?_
  refine gr_rd rfl rfl rfl (rd_move rfl) ?_
  refine gr_rd rfl rfl rfl (rd_max2 rfl rfl (r := (n.toNat : Int)) (by split <;> omega)) ?_
  refine gr_rd rfl rfl rfl (rd_assign rfl) ?_
  refine gr_nil ?_
  refine gk_then ?_
  refine gc_block ?_
  refine gc_loop (fun s : Nat × Bs × Value × Chunks => [(3, s.2.2.1), (4, i64 s.1)]) (fun s H1 L1 => H = H1 ∧ L1 = s.2.2.2 ++ L ∧ Ow 5 1 s.2.2.2 s.2.2.1 s.2.1.length (s.2.1.map u8v) ∧ digits 9 n.toNat = digits (9 - s.2.1.length) s.1 ++ s.2.1.reverse ∧ s.2.1.length ≤ 9 ∧ s.1 < 256 ^ (9 - s.2.1.length) ∧ s.1 < 9223372036854775808) (fun s => s.1) ((n.toNat, [], .slice none 0 0, [])) ?_ (by repeat (first | exact Subs.nil | refine Subs.cons rfl ?_)) ?_
  · exact ⟨rfl, rfl, Ow.nil, by simp, by simp, by simp; omega, by omega⟩
  · rintro ⟨x, bs, vb, C⟩ H1 L1 ⟨rfl, rfl, hO, hd, hl, hx, hx2⟩
    simp only at hO hd hl hx hx2
    show GC _ _ _ _ [(3, vb), (4, i64 x)] H (C ++ L)
    refine gc_seq ?_
    refine gc_seq ?_
    refine gc_seqr [(.mv, 0), (.mv, 1)] rfl ?_
    refine gr_rd rfl rfl rfl (rd_move rfl) ?_
    refine gr_rd rfl rfl rfl (rd_gtr rfl rfl) ?_
    refine gr_nil ?_
    refine gk_then ?_
    refine gc_cond rfl (fun hc0 => ?_) (fun hc0 => ?_)
    · have hx1 : 0 < x := by simpa using hc0
      refine gc_skip ?_
      refine gk_then ?_
      refine gc_seq ?_
      refine gc_block ?_
      refine gc_seqr [(.mv, 0), (.mv, 1), (.mv, 2), (.nm, 3), (.nm, 4), (.mv, 5)] rfl ?_
      refine gr_rd rfl rfl rfl (rd_move rfl) ?_
      refine gr_rd rfl rfl rfl (rd_move rfl) ?_
      refine gr_rd rfl rfl rfl (rd_convInt Tryd.underlying3 Tryd.underlying5 rfl (u8_of x)) ?_
      refine gr_nx rfl rfl rfl (nx_slice1 (vs := [_]) Tryd.underlying117 Tryd.sizeOf5 Tryd.zeroValue5 rfl rfl rfl (by first | exact oneCells_of_all rfl | assumption) rfl rfl) ?_; rintro _ _ _ _ ⟨b16, rfl, rfl, rfl⟩; refine ⟨trivial, ?_⟩
      refine gr_nx rfl rfl rfl (nx_append Tryd.app117_117 rfl rfl hO (by repeat (first | exact Pick.here | exact Pick.one | apply Pick.there | apply Pick.app)) (src_one rfl (oneCells_of_all rfl) List.mem_cons_self) (by omega) (by omega)) ?_; rintro v17 H' L' hle ⟨C1, hO1, _, rfl, rfl⟩; refine ⟨trivial, ?_⟩
      refine gr_rd rfl rfl rfl (rd_assign rfl) ?_
      refine gr_nil ?_
      refine gk_inBlock ?_
      refine gk_then ?_
      refine gc_seqr [(.mv, 0), (.mv, 1), (.mv, 2)] rfl ?_
      refine gr_rd rfl rfl rfl (rd_move rfl) ?_
      refine gr_rd rfl rfl rfl (rd_shr rfl rfl (by omega) (shr8 x)) ?_
      refine gr_rd rfl rfl rfl (rd_assign rfl) ?_
      refine gr_nil ?_
      refine gk_drop (L' := C1 ++ L) (by repeat (first | exact List.Sublist.refl _ | apply List.Sublist.cons_cons | apply List.Sublist.cons | apply List.Sublist.append (List.Sublist.refl _) | refine List.Sublist.trans ?_ (List.sublist_append_right _ _))) ?_
      refine gk_round (x / 256, bs ++ [UInt8.ofNat x], _, C1) ?_ ?_ (by repeat (first | exact Subs.nil | refine Subs.cons rfl ?_))
      · show x / 256 < x
        omega
      · have h := pow_step (x := x) (by omega) hx
        refine ⟨rfl, rfl, by simpa [u8v] using hO1, ?_, by simp; omega, ?_, by simp only; omega⟩
        · rw [hd, digits_step (by omega) h.1]; simp [Nat.sub_sub]
        · simpa [Nat.sub_sub] using h.2
    · have hx0 : x = 0 := by simpa using hc0
      subst hx0
      rw [digits_zero, List.nil_append] at hd
      obtain ⟨a0, cap0, rfl, hcap0⟩ := hO.slice
      refine gc_exit ?_
      refine gk_exit_then ?_
      refine gk_exit_then ?_
      refine gk_here ?_
      refine gk_then ?_
      refine gc_seq ?_
      refine gc_seqr [(.mv, 0), (.mv, 1), (.mv, 2), (.nm, 3), (.mv, 4)] rfl ?_
      refine gr_rd rfl rfl rfl (rd_move rfl) ?_
      refine gr_rd rfl rfl rfl (rd_lenS Tryd.underlying117 rfl) ?_
      refine gr_rd rfl rfl rfl (rd_convInt Tryd.underlying3 Tryd.underlying5 rfl (u8_of bs.length)) ?_
      refine gr_nx rfl rfl rfl (nx_slice1 (vs := [_]) Tryd.underlying117 Tryd.sizeOf5 Tryd.zeroValue5 rfl rfl rfl (by first | exact oneCells_of_all rfl | assumption) rfl rfl) ?_; rintro _ _ _ _ ⟨b21, rfl, rfl, rfl⟩; refine ⟨trivial, ?_⟩
      refine gr_rd rfl rfl rfl (rd_assign rfl) ?_
      refine gr_nil ?_
      refine gk_then ?_
      refine gc_seq ?_
      refine gc_seq ?_
      refine gc_seqr [(.mv, 0), (.mv, 1), (.mv, 2), (.mv, 3)] rfl ?_
      refine gr_rd rfl rfl rfl (rd_move rfl) ?_
      refine gr_rd rfl rfl rfl (rd_lenS Tryd.underlying117 rfl) ?_
      (first | refine gr_rd rfl rfl rfl (rd_sub rfl rfl (IntWalk.i64_in _ (by omega))) ?_ | refine gr_rd rfl rfl rfl (rd_sub rfl rfl rfl) ?_)
      refine gr_rd rfl rfl rfl (rd_assign rfl) ?_
      refine gr_nil ?_
      refine gk_then ?_
      refine gc_block ?_
      refine gc_loop (fun s : Nat × Value × Chunks => [(3, .slice a0 bs.length cap0), (5, s.2.1), (6, i64 ((s.1 : Int) - 1))]) (fun s H1 L1 => H = H1 ∧ L1 = s.2.2 ++ (C ++ L) ∧ s.1 ≤ bs.length ∧ Ow 5 1 s.2.2 s.2.1 (bs.length - s.1 + 1) ((UInt8.ofNat bs.length :: bs.reverse.take (bs.length - s.1)).map u8v)) (fun s => s.1) ((bs.length, .slice (some ⟨b21, 0, none⟩) 1 1, [(b21, .cells [u8v (UInt8.ofNat bs.length)].toArray 5 (0, 0))])) ?_ (by repeat (first | exact Subs.nil | refine Subs.cons rfl ?_)) ?_
      · exact ⟨rfl, rfl, Nat.le_refl _, by simpa using Ow.new rfl⟩
      · rintro ⟨j, vo, Co⟩ H1 L1 ⟨rfl, rfl, hj, hOo⟩
        simp only at hj hOo
        show GC _ _ _ _ [(3, .slice a0 bs.length cap0), (5, vo), (6, i64 ((j : Int) - 1))] H (Co ++ (C ++ L))
        refine gc_seq ?_
        refine gc_seq ?_
        refine gc_seqr [(.mv, 0), (.mv, 1)] rfl ?_
        refine gr_rd rfl rfl rfl (rd_move rfl) ?_
        refine gr_rd rfl rfl rfl (rd_geq rfl rfl) ?_
        refine gr_nil ?_
        refine gk_then ?_
        refine gc_cond rfl (fun hc1 => ?_) (fun hc1 => ?_)
        · have hj1 : 1 ≤ j := by have : (0 : Int) ≤ (j : Int) - 1 := by simpa using hc1
                                 omega
          obtain ⟨bb, lb, rfl, hcb, hsb⟩ := hO.elem (by omega)
          have hcell := hcb H (Co ++ (C ++ L)) (by intro x hx; first | exact hx | exact List.mem_append_left _ hx | simp [baseL, hx])
          have hel : lb[0 + (((j : Int) - 1).toNat) * 1]? = some (u8v (bs[j - 1]'(by omega))) := by
            have := hsb (j - 1) (u8v (bs[j - 1]'(by omega))) (map_u8 _ _ _)
            rw [show (0 + (((j : Int) - 1).toNat) * 1) = 0 + (j - 1) by omega]; exact this
          refine gc_skip ?_
          refine gk_then ?_
          refine gc_seq ?_
          refine gc_block ?_
          refine gc_seqr [(.mv, 0), (.mv, 1), (.mv, 2), (.mv, 3), (.mv, 4), (.nm, 5), (.nm, 6), (.mv, 7)] rfl ?_
          refine gr_rd rfl rfl rfl (rd_move rfl) ?_
          refine gr_rd rfl rfl rfl (rd_move rfl) ?_
          refine gr_rd rfl rfl rfl (rd_move rfl) ?_
          refine gr_rd rfl rfl rfl (rd_indexS Tryd.underlying117 Tryd.sizeOf5 rfl rfl rfl (by omega) (by omega)) ?_
          refine gr_rd rfl rfl rfl (rd_load1 Tryd.to5 rfl hcell hel) ?_
          refine gr_nx rfl rfl rfl (nx_slice1 (vs := [_]) Tryd.underlying117 Tryd.sizeOf5 Tryd.zeroValue5 rfl rfl rfl (by first | exact oneCells_of_all rfl | assumption) rfl rfl) ?_; rintro _ _ _ _ ⟨b34, rfl, rfl, rfl⟩; refine ⟨trivial, ?_⟩
          refine gr_nx rfl rfl rfl (nx_append Tryd.app117_117 rfl rfl hOo (by repeat (first | exact Pick.here | exact Pick.one | apply Pick.there | apply Pick.app)) (src_one rfl (oneCells_of_all rfl) List.mem_cons_self) (by omega) (by omega)) ?_; rintro v35 H' L' hle ⟨C2, hO2, _, rfl, rfl⟩; refine ⟨trivial, ?_⟩
          refine gr_rd rfl rfl rfl (rd_assign rfl) ?_
          refine gr_nil ?_
          refine gk_inBlock ?_
          refine gk_then ?_
          refine gc_seqr [(.mv, 0), (.mv, 1), (.mv, 2)] rfl ?_
          refine gr_rd rfl rfl rfl (rd_move rfl) ?_
          (first | refine gr_rd rfl rfl rfl (rd_sub rfl rfl (IntWalk.i64_in _ (by omega))) ?_ | refine gr_rd rfl rfl rfl (rd_sub rfl rfl rfl) ?_)
          refine gr_rd rfl rfl rfl (rd_assign rfl) ?_
          refine gr_nil ?_
          refine gk_drop (L' := C2 ++ (C ++ L)) (by repeat (first | exact List.Sublist.refl _ | apply List.Sublist.cons_cons | apply List.Sublist.cons | apply List.Sublist.append (List.Sublist.refl _) | refine List.Sublist.trans ?_ (List.sublist_append_right _ _))) ?_
          refine gk_round (j - 1, v35, C2) ?_ ?_ (by repeat (first | exact Subs.nil | refine Subs.cons (by first | rfl | (simp [find]; omega)) ?_))
          · show j - 1 < j
            omega
          · refine ⟨rfl, rfl, by simp only; omega, ?_⟩
            have e := take_back bs j (by omega) hj
            simp only
            rw [e, show bs.length - (j - 1) + 1 = bs.length - j + 1 + 1 by omega]
            simpa [u8v] using hO2
        · have hj0 : j = 0 := by simp at hc1; omega
          subst hj0
          rw [Nat.sub_zero, List.take_of_length_le (by simp)] at hOo
          refine gc_exit ?_
          refine gk_exit_then ?_
          refine gk_exit_then ?_
          refine gk_here ?_
          refine gk_then ?_
          refine gc_seq ?_
          refine gc_seqr [(.mv, 0), (.mv, 1), (.mv, 2)] rfl ?_
          refine gr_rd rfl rfl rfl (rd_move rfl) ?_
          refine gr_rd rfl rfl rfl (rd_convOw Tryd.underlying117 Tryd.underlying9 Tryd.underlying5 rfl hOo (by intro x hx; first | exact hx | exact List.mem_append_left _ hx | simp [baseL, hx])) ?_
          refine gr_rd rfl rfl rfl (rd_assign rfl) ?_
          refine gr_nil ?_
          refine gk_then ?_
          refine gc_ret ?_
          refine gk_result (L' := L) (.inl rfl) _ (res1 rfl rfl) (by repeat (first | exact List.Sublist.refl _ | apply List.Sublist.cons_cons | apply List.Sublist.cons | apply List.Sublist.append (List.Sublist.refl _) | refine List.Sublist.trans ?_ (List.sublist_append_right _ _))) (by first | exact Gh.le_refl _ | assumption | exact Gh.le_trans (by assumption) (by assumption)) ?_
          exact ⟨by simp [numB, hd], rfl, rfl⟩
theorem num_nat (H : Gh) (L : Chunks) (n : Nat) (hn : n < 9223372036854775808) :
    CC Tryd.prog 93 #[i64 n] H L (fun v H' L' => v = str (numB n) ∧ H = H' ∧ L = L') := by
  have h := num_cc H L (n : Int) (by omega)
  rwa [Int.toNat_natCast] at h
theorem list_cc (H : Gh) (L : Chunks) (v : Value) (ls : List Bs) (hv : Strs H L v ls) (hb : (listB ls).length < 1099511627776) :
    CC Tryd.prog 92 #[v] H L (fun u H' L' => u = str (listB ls) ∧ H = H' ∧ L = L') := by
  obtain ⟨A, bv, ov, cv, lv, rfl, hcv, hnv, hv0, hv1, hv2⟩ := hv
  have hfl : (ls.flatMap textB).length < 1099511627776 := by unfold listB at hb; rw [List.length_append] at hb; omega
  refine cc_of Tryd.func92 rfl (Nat.le_of_ble_eq_true rfl) ?_
  simp only [Tryd.ntmps92]
  refine gc_seq ?_
  refine gc_seqr [(.mv, 0)] rfl ?_
  refine gr_rd rfl rfl rfl (rd_assign rfl) ?_
  refine gr_nil ?_
  refine gk_then ?_
  refine gc_seq ?_
  refine gc_seqr [(.mv, 0), (.mv, 1), (.nm, 2), (.nm, 3), (.mv, 4)] rfl ?_
  refine gr_rd rfl rfl rfl (rd_move rfl) ?_
  refine gr_rd rfl rfl rfl (rd_lenS Tryd.underlying69 rfl) ?_
  refine gr_nx rfl rfl rfl (nx_call Tryd.en93 rfl (num_nat H L _ (by omega))) ?_; rintro v8 H' L' hle ⟨rfl, rfl, rfl⟩; refine ⟨trivial, ?_⟩
  refine gr_nx rfl rfl rfl (nx_convBytes Tryd.underlying9 Tryd.underlying117 Tryd.underlying5 rfl) ?_; rintro v9 H' L' hle ⟨C0, hO0, _, rfl, rfl⟩; refine ⟨trivial, ?_⟩
  refine gr_rd rfl rfl rfl (rd_assign rfl) ?_
  refine gr_nil ?_
  refine gk_then ?_
  refine gc_seq ?_
  refine gc_seq ?_
  refine gc_seqr [(.mv, 0), (.mv, 1), (.mv, 2)] rfl ?_
  refine gr_rd rfl rfl rfl (rd_move rfl) ?_
  refine gr_rd rfl rfl rfl (rd_lenS Tryd.underlying69 rfl) ?_
  refine gr_rd rfl rfl rfl (rd_move rfl) ?_
  refine gr_nil ?_
  refine gk_then ?_
  refine gc_block ?_
  refine gc_loop (fun s : Nat × Value × Chunks => [(3, s.2.1), (10, .slice A ls.length cv), (11, i64 ls.length), (12, i64 s.1)]) (fun s H1 L1 => H = H1 ∧ L1 = s.2.2 ++ L ∧ s.1 ≤ ls.length ∧ Ow 5 1 s.2.2 s.2.1 (numB ls.length ++ (ls.take s.1).flatMap textB).length ((numB ls.length ++ (ls.take s.1).flatMap textB).map u8v)) (fun s => ls.length - s.1) ((0, v9, C0)) ?_ (by repeat (first | exact Subs.nil | refine Subs.cons rfl ?_)) ?_
  · exact ⟨rfl, rfl, Nat.zero_le _, by simpa using hO0⟩
  · rintro ⟨k, vo, C⟩ H1 L1 ⟨rfl, rfl, hk, hO⟩
    simp only at hk hO
    show GC _ _ _ _ [(3, vo), (10, .slice A ls.length cv), (11, i64 ls.length), (12, i64 k)] H (C ++ L)
    refine gc_seq ?_
    refine gc_seqr [(.mv, 0)] rfl ?_
    refine gr_rd rfl rfl rfl (rd_lss rfl rfl) ?_
    refine gr_nil ?_
    refine gk_then ?_
    refine gc_seq ?_
    refine gc_cond rfl (fun hc0 => ?_) (fun hc0 => ?_)
    · have hlt : k < ls.length := by simpa using hc0
      obtain ⟨rfl, hca, hsa⟩ := sl_at hv1 hv2 hlt
      have hca1 := Cells.mono (L' := C ++ L) hca (Gh.le_refl H) (by intro x hx; first | exact hx | exact List.mem_append_left _ hx | simp [baseL, hx])
      have hll : (numB ls.length ++ (ls.take k).flatMap textB).length < 1099511627786 := by
        have h1 := numB_len ls.length
        have h2 := flat_le ls k
        simp only [List.length_append]; omega
      have hlk : ls[k].length < 1099511627776 := by
        have h2 := flat_le ls (k + 1)
        rw [flat_take ls k hlt] at h2
        simp only [List.length_append] at h2; omega
      have hnk := numB_len ls[k].length
      refine gc_skip ?_
      refine gk_then ?_
      refine gc_seq ?_
      refine gc_block ?_
      refine gc_seq ?_
      refine gc_seqr [(.mv, 0), (.mv, 1), (.mv, 2)] rfl ?_
      refine gr_rd rfl rfl rfl (rd_indexS Tryd.underlying69 Tryd.sizeOf9 rfl rfl rfl (by omega) (by omega)) ?_
      refine gr_rd rfl rfl rfl (rd_load1 Tryd.to9 rfl hca1 (seg_one hsa)) ?_
      refine gr_rd rfl rfl rfl (rd_assign rfl) ?_
      refine gr_nil ?_
      refine gk_then ?_
      refine gc_seqr [(.mv, 0), (.mv, 1), (.mv, 2), (.nm, 3), (.nm, 4), (.mv, 5), (.nm, 6), (.mv, 7)] rfl ?_
      refine gr_rd rfl rfl rfl (rd_move rfl) ?_
      refine gr_rd rfl rfl rfl (rd_move rfl) ?_
      refine gr_rd rfl rfl rfl (rd_lenL Tryd.underlying9 rfl) ?_
      refine gr_nx rfl rfl rfl (nx_call Tryd.en93 rfl (num_nat H (C ++ L) _ (by omega))) ?_; rintro v19 H' L' hle ⟨rfl, rfl, rfl⟩; refine ⟨trivial, ?_⟩
      refine gr_nx rfl rfl rfl (nx_append Tryd.app117_9 rfl rfl hO (by repeat (first | exact Pick.here | exact Pick.one | apply Pick.there | apply Pick.app)) src_str (by simp only [size_str]; omega) (by simp only [size_str]; omega)) ?_; rintro v20 H' L' hle ⟨C1, hO1, _, rfl, rfl⟩; refine ⟨trivial, ?_⟩
      refine gr_rd rfl rfl rfl (rd_move rfl) ?_
      refine gr_nx rfl rfl rfl (nx_append Tryd.app117_9 rfl rfl hO1 (by repeat (first | exact Pick.here | exact Pick.one | apply Pick.there | apply Pick.app)) src_str (by simp only [size_str]; omega) (by simp only [size_str]; omega)) ?_; rintro v22 H' L' hle ⟨C2, hO2, _, rfl, rfl⟩; refine ⟨trivial, ?_⟩
      refine gr_rd rfl rfl rfl (rd_assign rfl) ?_
      refine gr_nil ?_
      refine gk_inBlock ?_
      refine gk_then ?_
      refine gc_seqr [(.mv, 0), (.mv, 1)] rfl ?_
      (first | refine gr_rd rfl rfl rfl (rd_add rfl rfl (IntWalk.i64_in _ (by omega))) ?_ | refine gr_rd rfl rfl rfl (rd_add rfl rfl rfl) ?_)
      refine gr_rd rfl rfl rfl (rd_move rfl) ?_
      refine gr_nil ?_
      refine gk_round (k + 1, v22, C2) ?_ ?_ (by repeat (first | exact Subs.nil | refine Subs.cons rfl ?_))
      · show ls.length - (k + 1) < ls.length - k
        omega
      · refine ⟨rfl, rfl, by simp only; omega, ?_⟩
        simp only
        rw [flat_take ls k hlt]
        simpa [Nat.add_assoc, size_str] using hO2
    · have hk2 : k = ls.length := by simp at hc0; omega
      subst hk2
      rw [List.take_length] at hO
      refine gc_exit ?_
      refine gk_exit_then ?_
      refine gk_exit_then ?_
      refine gk_here ?_
      refine gk_then ?_
      refine gc_seq ?_
      refine gc_seqr [(.mv, 0), (.mv, 1), (.mv, 2)] rfl ?_
      refine gr_rd rfl rfl rfl (rd_move rfl) ?_
      refine gr_rd rfl rfl rfl (rd_convOw Tryd.underlying117 Tryd.underlying9 Tryd.underlying5 rfl hO (by intro x hx; first | exact hx | exact List.mem_append_left _ hx | simp [baseL, hx])) ?_
      refine gr_rd rfl rfl rfl (rd_assign rfl) ?_
      refine gr_nil ?_
      refine gk_then ?_
      refine gc_ret ?_
      refine gk_result (L' := L) (.inl rfl) _ (res1 rfl rfl) (by repeat (first | exact List.Sublist.refl _ | apply List.Sublist.cons_cons | apply List.Sublist.cons | apply List.Sublist.append (List.Sublist.refl _) | refine List.Sublist.trans ?_ (List.sublist_append_right _ _))) (by first | exact Gh.le_refl _ | assumption | exact Gh.le_trans (by assumption) (by assumption)) ?_
      exact ⟨rfl, rfl, rfl⟩
theorem u8_mod (x : Nat) : IntKind.u8.wrap ((x % 256 : Nat) : Int) = ((UInt8.ofNat x).toNat : Int) := by
  rw [IntKind.wrap_u8]; simp
theorem ow_bytes {e b : Nat} (l : Bs) : Ow e 1 [(b, .cells (l.map u8v).toArray e (0, 0))] (.slice (some ⟨b, 0, none⟩) l.length l.length) l.length (l.map u8v) := Ow.new (by simp)
theorem rnum_cc (H : Gh) (L : Chunks) (n : Nat) (hn : n < 9223372036854775808) :
    CC Tryd.prog 99 #[i64 n] H L (fun v H' L' => v = str (numB n) ∧ H = H' ∧ L = L') := by
  refine cc_of Tryd.func99 rfl (Nat.le_of_ble_eq_true rfl) ?_
  simp only [Tryd.ntmps99]
  refine gc_seq ?_
  refine gc_seqr [(.mv, 0)] rfl ?_
  refine gr_rd rfl rfl rfl (rd_assign rfl) ?_
  refine gr_nil ?_
  refine gk_then ?_
  refine gc_seq ?_
  refine gc_seqr [(.mv, 0)] rfl ?_
  refine gr_rd rfl rfl rfl (rd_assign rfl) ?_
  refine gr_nil ?_
  refine gk_then ?_
  refine gc_seq ?_
  refine gc_seqr [(.mv, 0)] rfl ?_
  refine gr_rd rfl rfl rfl (rd_assign rfl) ?_
  refine gr_nil ?_
  refine gk_then ?_
  refine gc_seq ?_
  refine gc_block ?_
  refine gc_loop (fun s : Nat × Bs => [(0, i64 s.1), (3, str s.2), (4, i64 s.2.length)]) (fun s H1 L1 => H = H1 ∧ L.Sublist L1 ∧ digits 9 n = digits (9 - s.2.length) s.1 ++ s.2 ∧ s.2.length ≤ 9 ∧ s.1 < 256 ^ (9 - s.2.length) ∧ s.1 < 9223372036854775808) (fun s => s.1) ((n, [])) ?_ (by repeat (first | exact Subs.nil | refine Subs.cons rfl ?_)) ?_
  · exact ⟨rfl, List.Sublist.refl _, by simp, by simp, by simp; omega, by omega⟩
  · rintro ⟨x, bs⟩ H1 L1 ⟨rfl, hL1, hd, hl, hx, hx2⟩
    simp only at hd hl hx hx2
    refine gc_drop hL1 ?_
    show GC _ _ _ _ [(0, i64 x), (3, str bs), (4, i64 bs.length)] H L
    refine gc_seq ?_
    refine gc_seq ?_
    refine gc_seqr [(.mv, 0), (.mv, 1)] rfl ?_
    refine gr_rd rfl rfl rfl (rd_move rfl) ?_
    refine gr_rd rfl rfl rfl (rd_gtr rfl rfl) ?_
    refine gr_nil ?_
    refine gk_then ?_
    refine gc_cond rfl (fun hc0 => ?_) (fun hc0 => ?_)
    · have hx1 : 0 < x := by simpa using hc0
      refine gc_skip ?_
      refine gk_then ?_
      refine gc_block ?_
      refine gc_seq ?_
      refine gc_seqr [(.mv, 0), (.mv, 1), (.mv, 2), (.nm, 3), (.mv, 4), (.mv, 5), (.mv, 6), (.mv, 7)] rfl ?_
      refine gr_rd rfl rfl rfl (rd_move rfl) ?_
      refine gr_rd rfl rfl rfl (rd_rem rfl rfl (by omega) (r := ((x % 256 : Nat) : Int)) (by rw [Int.tmod_eq_emod_of_nonneg (by omega)]; omega)) ?_
      refine gr_rd rfl rfl rfl (rd_convInt Tryd.underlying3 Tryd.underlying5 rfl (u8_mod x)) ?_
      refine gr_nx rfl rfl rfl (nx_slice1 (vs := [_]) Tryd.underlying117 Tryd.sizeOf5 Tryd.zeroValue5 rfl rfl rfl (by first | exact oneCells_of_all rfl | assumption) rfl rfl) ?_; rintro _ _ _ _ ⟨b10, rfl, rfl, rfl⟩; refine ⟨trivial, ?_⟩
      refine gr_rd rfl rfl rfl (rd_convOw Tryd.underlying117 Tryd.underlying9 Tryd.underlying5 rfl (ow_bytes (b := b10) (e := 5) [UInt8.ofNat x]) (by intro x hx; first | exact hx | exact List.mem_append_left _ hx | simp [baseL, hx])) ?_
      refine gr_rd rfl rfl rfl (rd_move rfl) ?_
      refine gr_rd rfl rfl rfl (rd_strAddL rfl rfl (by simp; omega)) ?_
      refine gr_rd rfl rfl rfl (rd_assign rfl) ?_
      refine gr_nil ?_
      refine gk_then ?_
      refine gc_seq ?_
      refine gc_seqr [(.mv, 0), (.mv, 1), (.mv, 2)] rfl ?_
      refine gr_rd rfl rfl rfl (rd_move rfl) ?_
      refine gr_rd rfl rfl rfl (rd_quo rfl rfl (by omega) (r := ((x / 256 : Nat) : Int)) (by rw [IntWalk.i64_quo _ _ (by omega)]; omega)) ?_
      refine gr_rd rfl rfl rfl (rd_assign rfl) ?_
      refine gr_nil ?_
      refine gk_then ?_
      refine gc_seqr [(.mv, 0), (.mv, 1), (.mv, 2)] rfl ?_
      refine gr_rd rfl rfl rfl (rd_move rfl) ?_
      (first | refine gr_rd rfl rfl rfl (rd_add rfl rfl (IntWalk.i64_in _ (by omega))) ?_ | refine gr_rd rfl rfl rfl (rd_add rfl rfl rfl) ?_)
      refine gr_rd rfl rfl rfl (rd_assign rfl) ?_
      refine gr_nil ?_
      refine gk_inBlock ?_
      refine gk_round (x / 256, UInt8.ofNat x :: bs) ?_ ?_ (by repeat (first | exact Subs.nil | refine Subs.cons rfl ?_))
      · show x / 256 < x
        omega
      · have h := pow_step (x := x) (by omega) hx
        refine ⟨rfl, (by repeat (first | exact List.Sublist.refl _ | apply List.Sublist.cons_cons | apply List.Sublist.cons | apply List.Sublist.append (List.Sublist.refl _) | refine List.Sublist.trans ?_ (List.sublist_append_right _ _))), ?_, by simp; omega, ?_, by simp only; omega⟩
        · rw [hd, digits_step (by omega) h.1]; simp [Nat.sub_sub]
        · simpa [Nat.sub_sub] using h.2
    · have hx0 : x = 0 := by simp at hc0; omega
      subst hx0
      rw [digits_zero, List.nil_append] at hd
      refine gc_exit ?_
      refine gk_exit_then ?_
      refine gk_exit_then ?_
      refine gk_here ?_
      refine gk_then ?_
      refine gc_seq ?_
      refine gc_seqr [(.mv, 0), (.mv, 1), (.nm, 2), (.mv, 3), (.mv, 4), (.mv, 5), (.mv, 6)] rfl ?_
      refine gr_rd rfl rfl rfl (rd_move rfl) ?_
      refine gr_rd rfl rfl rfl (rd_convInt Tryd.underlying3 Tryd.underlying5 rfl (u8_of bs.length)) ?_
      refine gr_nx rfl rfl rfl (nx_slice1 (vs := [_]) Tryd.underlying117 Tryd.sizeOf5 Tryd.zeroValue5 rfl rfl rfl (by first | exact oneCells_of_all rfl | assumption) rfl rfl) ?_; rintro _ _ _ _ ⟨b20, rfl, rfl, rfl⟩; refine ⟨trivial, ?_⟩
      refine gr_rd rfl rfl rfl (rd_convOw Tryd.underlying117 Tryd.underlying9 Tryd.underlying5 rfl (ow_bytes (b := b20) (e := 5) [UInt8.ofNat bs.length]) (by intro x hx; first | exact hx | exact List.mem_append_left _ hx | simp [baseL, hx])) ?_
      refine gr_rd rfl rfl rfl (rd_move rfl) ?_
      refine gr_rd rfl rfl rfl (rd_strAddL rfl rfl (by simp; omega)) ?_
      refine gr_rd rfl rfl rfl (rd_assign rfl) ?_
      refine gr_nil ?_
      refine gk_then ?_
      refine gc_ret ?_
      refine gk_result (L' := L) (.inl rfl) _ (res1 rfl rfl) (by repeat (first | exact List.Sublist.refl _ | apply List.Sublist.cons_cons | apply List.Sublist.cons | apply List.Sublist.append (List.Sublist.refl _) | refine List.Sublist.trans ?_ (List.sublist_append_right _ _))) (by first | exact Gh.le_refl _ | assumption | exact Gh.le_trans (by assumption) (by assumption)) ?_
      exact ⟨by simp [numB, hd], rfl, rfl⟩
theorem rtext_cc (H : Gh) (L : Chunks) (s : Bs) (hs : s.length < 1099511627776) :
    CC Tryd.prog 100 #[str s] H L (fun v H' L' => v = str (textB s) ∧ H = H' ∧ L = L') := by
  have hn := numB_len s.length
  refine cc_of Tryd.func100 rfl (Nat.le_of_ble_eq_true rfl) ?_
  simp only [Tryd.ntmps100]
  refine gc_seq ?_
  refine gc_seqr [(.mv, 0)] rfl ?_
  refine gr_rd rfl rfl rfl (rd_assign rfl) ?_
  refine gr_nil ?_
  refine gk_then ?_
  refine gc_seq ?_
  refine gc_seqr [(.mv, 0), (.mv, 1), (.nm, 2), (.mv, 3), (.mv, 4), (.mv, 5)] rfl ?_
  refine gr_rd rfl rfl rfl (rd_move rfl) ?_
  refine gr_rd rfl rfl rfl (rd_lenL Tryd.underlying9 rfl) ?_
  refine gr_nx rfl rfl rfl (nx_call Tryd.en99 rfl (rnum_cc H L _ (by omega))) ?_; rintro v5 H' L' hle ⟨rfl, rfl, rfl⟩; refine ⟨trivial, ?_⟩
  refine gr_rd rfl rfl rfl (rd_move rfl) ?_
  refine gr_rd rfl rfl rfl (rd_strAddL rfl rfl (by omega)) ?_
  refine gr_rd rfl rfl rfl (rd_assign rfl) ?_
  refine gr_nil ?_
  refine gk_then ?_
  refine gc_ret ?_
  refine gk_result (L' := L) (.inl rfl) _ (res1 rfl rfl) (by repeat (first | exact List.Sublist.refl _ | apply List.Sublist.cons_cons | apply List.Sublist.cons | apply List.Sublist.append (List.Sublist.refl _) | refine List.Sublist.trans ?_ (List.sublist_append_right _ _))) (by first | exact Gh.le_refl _ | assumption | exact Gh.le_trans (by assumption) (by assumption)) ?_
  exact ⟨rfl, rfl, rfl⟩
theorem rlist_cc (H : Gh) (L : Chunks) (v : Value) (ls : List Bs) (hv : Strs H L v ls) (hb : (listB ls).length < 1099511627776) :
    CC Tryd.prog 78 #[v] H L (fun u H' L' => u = str (listB ls) ∧ H = H' ∧ L = L') := by
  obtain ⟨A, bv, ov, cv, lv, rfl, hcv, hnv, hv0, hv1, hv2⟩ := hv
  have hfl : (ls.flatMap textB).length < 1099511627776 := by unfold listB at hb; rw [List.length_append] at hb; omega
  refine cc_of Tryd.func78 rfl (Nat.le_of_ble_eq_true rfl) ?_
  simp only [Tryd.ntmps78]
  refine gc_seq ?_
  refine gc_seqr [(.mv, 0)] rfl ?_
  refine gr_rd rfl rfl rfl (rd_assign rfl) ?_
  refine gr_nil ?_
  refine gk_then ?_
  refine gc_seq ?_
  refine gc_seqr [(.mv, 0), (.mv, 1), (.nm, 2), (.mv, 3)] rfl ?_
  refine gr_rd rfl rfl rfl (rd_move rfl) ?_
  refine gr_rd rfl rfl rfl (rd_lenS Tryd.underlying69 rfl) ?_
  refine gr_nx rfl rfl rfl (nx_call Tryd.en99 rfl (rnum_cc H L _ (by omega))) ?_; rintro v8 H' L' hle ⟨rfl, rfl, rfl⟩; refine ⟨trivial, ?_⟩
  refine gr_rd rfl rfl rfl (rd_assign rfl) ?_
  refine gr_nil ?_
  refine gk_then ?_
  refine gc_seq ?_
  refine gc_seq ?_
  refine gc_seqr [(.mv, 0), (.mv, 1), (.mv, 2)] rfl ?_
  refine gr_rd rfl rfl rfl (rd_move rfl) ?_
  refine gr_rd rfl rfl rfl (rd_lenS Tryd.underlying69 rfl) ?_
  refine gr_rd rfl rfl rfl (rd_move rfl) ?_
  refine gr_nil ?_
  refine gk_then ?_
  refine gc_block ?_
  refine gc_loop (fun k : Nat => [(3, str (numB ls.length ++ (ls.take k).flatMap textB)), (9, .slice A ls.length cv), (10, i64 ls.length), (11, i64 k)]) (fun k H1 L1 => H = H1 ∧ L = L1 ∧ k ≤ ls.length) (fun k => ls.length - k) (0) ?_ (by refine Subs.cons ?_ (by repeat (first | exact Subs.nil | refine Subs.cons rfl ?_)); simp only [List.take_zero, List.flatMap_nil, List.append_nil]; rfl) ?_
  · exact ⟨rfl, rfl, Nat.zero_le _⟩
  · rintro k H1 L1 ⟨rfl, rfl, hk⟩
    refine gc_seq ?_
    refine gc_seqr [(.mv, 0)] rfl ?_
    refine gr_rd rfl rfl rfl (rd_lss rfl rfl) ?_
    refine gr_nil ?_
    refine gk_then ?_
    refine gc_seq ?_
    refine gc_cond rfl (fun hc0 => ?_) (fun hc0 => ?_)
    · have hlt : k < ls.length := by simpa using hc0
      obtain ⟨rfl, hca, hsa⟩ := sl_at hv1 hv2 hlt
      have hca1 := Cells.mono (L' := L) hca (Gh.le_refl H) (by intro x hx; first | exact hx | exact List.mem_append_left _ hx | simp [baseL, hx])
      have hll : (numB ls.length ++ (ls.take k).flatMap textB).length < 1099511627786 := by
        have h1 := numB_len ls.length
        have h2 := flat_le ls k
        simp only [List.length_append]; omega
      have hlk : (textB ls[k]).length < 1099511627776 ∧ ls[k].length < 1099511627776 := by
        have h2 := flat_le ls (k + 1)
        rw [flat_take ls k hlt] at h2
        simp only [List.length_append, textB] at h2 ⊢; omega
      refine gc_skip ?_
      refine gk_then ?_
      refine gc_seq ?_
      refine gc_block ?_
      refine gc_seq ?_
      refine gc_seqr [(.mv, 0), (.mv, 1), (.mv, 2)] rfl ?_
      refine gr_rd rfl rfl rfl (rd_indexS Tryd.underlying69 Tryd.sizeOf9 rfl rfl rfl (by omega) (by omega)) ?_
      refine gr_rd rfl rfl rfl (rd_load1 Tryd.to9 rfl hca1 (seg_one hsa)) ?_
      refine gr_rd rfl rfl rfl (rd_assign rfl) ?_
      refine gr_nil ?_
      refine gk_then ?_
      refine gc_seqr [(.mv, 0), (.mv, 1), (.nm, 2), (.mv, 3), (.mv, 4)] rfl ?_
      refine gr_rd rfl rfl rfl (rd_move rfl) ?_
      refine gr_rd rfl rfl rfl (rd_move rfl) ?_
      refine gr_nx rfl rfl rfl (nx_call Tryd.en100 rfl (rtext_cc H L _ hlk.2)) ?_; rintro v17 H' L' hle ⟨rfl, rfl, rfl⟩; refine ⟨trivial, ?_⟩
      refine gr_rd rfl rfl rfl (rd_strAddL rfl rfl (by have := hlk.1; omega)) ?_
      refine gr_rd rfl rfl rfl (rd_assign rfl) ?_
      refine gr_nil ?_
      refine gk_inBlock ?_
      refine gk_then ?_
      refine gc_seqr [(.mv, 0), (.mv, 1)] rfl ?_
      (first | refine gr_rd rfl rfl rfl (rd_add rfl rfl (IntWalk.i64_in _ (by omega))) ?_ | refine gr_rd rfl rfl rfl (rd_add rfl rfl rfl) ?_)
      refine gr_rd rfl rfl rfl (rd_move rfl) ?_
      refine gr_nil ?_
      refine gk_round (k + 1) (by omega) ⟨rfl, rfl, by omega⟩ ?_
      refine Subs.cons ?_ (by repeat (first | exact Subs.nil | refine Subs.cons rfl ?_))
      simp only [find, cond]
      rw [flat_take ls k hlt, textB, List.append_assoc]
    · have hk2 : k = ls.length := by simp at hc0; omega
      subst hk2
      rw [List.take_length]
      refine gc_exit ?_
      refine gk_exit_then ?_
      refine gk_exit_then ?_
      refine gk_here ?_
      refine gk_then ?_
      refine gc_seq ?_
      refine gc_seqr [(.mv, 0), (.mv, 1)] rfl ?_
      refine gr_rd rfl rfl rfl (rd_move rfl) ?_
      refine gr_rd rfl rfl rfl (rd_assign rfl) ?_
      refine gr_nil ?_
      refine gk_then ?_
      refine gc_ret ?_
      refine gk_result (L' := L) (.inl rfl) _ (res1 rfl rfl) (by repeat (first | exact List.Sublist.refl _ | apply List.Sublist.cons_cons | apply List.Sublist.cons | apply List.Sublist.append (List.Sublist.refl _) | refine List.Sublist.trans ?_ (List.sublist_append_right _ _))) (by first | exact Gh.le_refl _ | assumption | exact Gh.le_trans (by assumption) (by assumption)) ?_
      exact ⟨rfl, rfl, rfl⟩
theorem rnumZ_cc (H : Gh) (L : Chunks) (n : Int) (h0 : 0 ≤ n) (hn : n < 9223372036854775808) :
    CC Tryd.prog 99 #[i64 n] H L (fun v H' L' => v = str (numB n.toNat) ∧ H = H' ∧ L = L') := by
  obtain ⟨m, rfl⟩ := Int.eq_ofNat_of_zero_le h0
  exact rnum_cc H L m (by omega)
theorem rnum9_cc (H : Gh) (L : Chunks) (n : Int) (hn : n < 9223372036854775808) :
    CC Tryd.prog 79 #[i64 n] H L (fun v H' L' => v = str (numB n.toNat) ∧ H = H' ∧ L = L') := by
  refine cc_of Tryd.func79 rfl (Nat.le_of_ble_eq_true rfl) ?_
  simp only [Tryd.ntmps79]
  refine gc_seq ?_
  refine gc_seqr [(.mv, 0)] rfl ?_
  refine gr_rd rfl rfl rfl (rd_assign rfl) ?_
  refine gr_nil ?_
  refine gk_then ?_
  refine gc_seq ?_
  refine gc_seq ?_
  refine gc_seqr [(.mv, 0), (.mv, 1)] rfl ?_
  refine gr_rd rfl rfl rfl (rd_move rfl) ?_
  refine gr_rd rfl rfl rfl (rd_lss rfl rfl) ?_
  refine gr_nil ?_
  refine gk_then ?_
  refine gc_cond rfl (fun hc0 => ?_) (fun hc0 => ?_)
  · have h0 : n.toNat = 0 := by simp at hc0; omega
    refine gc_seqr [(.mv, 0)] rfl ?_
    refine gr_rd rfl rfl rfl (rd_assign rfl) ?_
    refine gr_nil ?_
    refine gk_then ?_
    refine gc_seq ?_
    refine gc_seqr [(.mv, 0), (.nm, 1), (.mv, 2)] rfl ?_
    refine gr_rd rfl rfl rfl (rd_move rfl) ?_
    refine gr_nx rfl rfl rfl (nx_call Tryd.en99 rfl (rnumZ_cc H L _ (by omega) (by omega))) ?_; rintro v6 H' L' hle ⟨rfl, rfl, rfl⟩; refine ⟨trivial, ?_⟩
    refine gr_rd rfl rfl rfl (rd_assign rfl) ?_
    refine gr_nil ?_
    refine gk_then ?_
    refine gc_ret ?_
    refine gk_result (L' := L) (.inl rfl) _ (res1 rfl rfl) (by repeat (first | exact List.Sublist.refl _ | apply List.Sublist.cons_cons | apply List.Sublist.cons | apply List.Sublist.append (List.Sublist.refl _) | refine List.Sublist.trans ?_ (List.sublist_append_right _ _))) (by first | exact Gh.le_refl _ | assumption | exact Gh.le_trans (by assumption) (by assumption)) ?_
    exact ⟨by rw [h0]; rfl, rfl, rfl⟩
  · have h0 : 0 ≤ n := by simpa using hc0
    refine gc_skip ?_
    refine gk_then ?_
    refine gc_seq ?_
    refine gc_seqr [(.mv, 0), (.nm, 1), (.mv, 2)] rfl ?_
    refine gr_rd rfl rfl rfl (rd_move rfl) ?_
    refine gr_nx rfl rfl rfl (nx_call Tryd.en99 rfl (rnumZ_cc H L _ (by omega) (by omega))) ?_; rintro v6 H' L' hle ⟨rfl, rfl, rfl⟩; refine ⟨trivial, ?_⟩
    refine gr_rd rfl rfl rfl (rd_assign rfl) ?_
    refine gr_nil ?_
    refine gk_then ?_
    refine gc_ret ?_
    refine gk_result (L' := L) (.inl rfl) _ (res1 rfl rfl) (by repeat (first | exact List.Sublist.refl _ | apply List.Sublist.cons_cons | apply List.Sublist.cons | apply List.Sublist.append (List.Sublist.refl _) | refine List.Sublist.trans ?_ (List.sublist_append_right _ _))) (by first | exact Gh.le_refl _ | assumption | exact Gh.le_trans (by assumption) (by assumption)) ?_
    exact ⟨rfl, rfl, rfl⟩
end Go.Proofs.YtfhldfjknagidaaDoor
