/-
  Walks: digests.
-/
import Derived.Test.YtfhldfjknagidaaDoorVKs2
set_option linter.unusedSimpArgs false
set_option linter.unusedVariables false
namespace Go.Proofs.YtfhldfjknagidaaDoor
open Go.VK Go.Tr
set_option maxRecDepth 20000
theorem wordsTo_length (p : Bs) : ∀ k, (wordsTo p k).length = k
  | 0 => rfl
  | k + 1 => by simp [wordsTo, wordsTo_length p k]
theorem words_next {p : Bs} {k : Nat} {x : UInt32} (hk : k < 64) (hx : x = if k < 16 then word p k else nextW (wordsTo p k) k) :
    wr ((wordsTo p k ++ List.replicate (64 - k) 0).map w32) (0 + ((k : Int).toNat) * 1) [w32 x] = (wordsTo p (k + 1) ++ List.replicate (64 - (k + 1)) 0).map w32 := by
  have h := wr_next w32 (wordsTo p k) 0 x 64 (by rw [wordsTo_length]; exact hk)
  rw [wordsTo_length] at h
  rw [show 0 + ((k : Int).toNat) * 1 = k by omega, h, hx]
  rfl
theorem words_fit {p : Bs} {k : Nat} (hk : k < 64) (v : Value) : 0 + ((k : Int).toNat) * 1 + [v].length ≤ ((wordsTo p k ++ List.replicate (64 - k) 0).map w32).length := by
  simp [wordsTo_length]; omega
theorem words_at {p : Bs} {k j : Nat} {i : Int} (hj : j < k) (hi : i = (j : Int)) : ((wordsTo p k ++ List.replicate (64 - k) 0).map w32)[0 + i.toNat * 1]? = some (w32 ((wordsTo p k).getD j 0)) := by
  subst hi
  rw [show 0 + ((j : Int).toNat) * 1 = j by omega, List.map_append, List.getElem?_append_left (by simp [wordsTo_length]; exact hj)]
  exact w32_at _ (by rw [wordsTo_length]; exact hj)
theorem w32_at2 (l : List UInt32) {j : Nat} {i : Int} (h : j < l.length) (hi : i = (j : Int)) : (l.map w32)[0 + i.toNat * 1]? = some (w32 (l.getD j 0)) := by
  subst hi; rw [show 0 + ((j : Int).toNat) * 1 = j by omega]; exact w32_at l h
theorem byte_at {lp : List Value} {o : Nat} {p : Bs} (hs : Seg lp o (p.map u8v)) {j : Nat} {i : Int} (hi : i = (j : Int)) (hj : j < p.length) : lp[o + i.toNat * 1]? = some (u8v (p.getD j 0)) := by
  subst hi
  rw [show ((j : Int).toNat) * 1 = j by omega]
  refine hs j _ ?_
  simp [List.getD_eq_getElem?_getD, hj]
theorem roundK_length : roundK.length = 64 := rfl
/-- The first k sums stand. -/
def addTo (h r : List UInt32) (k : Nat) : List UInt32 := (List.zipWith (· + ·) h r).take k ++ h.drop k
theorem addTo_length {h r : List UInt32} (he : h.length = r.length) (k : Nat) : (addTo h r k).length = h.length := by
  simp [addTo, he]; omega
theorem addTo_at {h r : List UInt32} (he : h.length = r.length) {k : Nat} (hk : k < h.length) : (addTo h r k).getD k 0 = h.getD k 0 := by
  rw [addTo, List.getD_eq_getElem?_getD, List.getD_eq_getElem?_getD, List.getElem?_append_right (by simp; omega)]
  simp
  rw [show k - min k (min h.length r.length) = 0 by omega]
  simp
theorem addTo_next {h r : List UInt32} (he : h.length = r.length) {k : Nat} (hk : k < h.length) :
    wr ((addTo h r k).map w32) (0 + ((k : Int).toNat) * 1) [w32 (h.getD k 0 + r.getD k 0)] = (addTo h r (k + 1)).map w32 := by
  have e1 : (List.zipWith (· + ·) h r).take (k + 1) = (List.zipWith (· + ·) h r).take k ++ [h.getD k 0 + r.getD k 0] := by
    rw [List.take_add_one]
    congr 1
    simp [List.getElem?_zipWith, List.getD_eq_getElem?_getD, hk, show k < r.length by omega]
  have e2 : ((addTo h r k).map w32).take k = ((List.zipWith (· + ·) h r).take k).map w32 := by
    rw [addTo, List.map_append, List.take_append_of_le_length (by simp; omega), ← List.map_take, List.take_take, Nat.min_self]
  have e3 : ((addTo h r k).map w32).drop (k + 1) = (h.drop (k + 1)).map w32 := by
    rw [addTo, List.map_append, List.drop_append, List.drop_eq_nil_of_le (by simp; omega), List.nil_append, List.length_map, List.length_take, List.length_zipWith, ← List.map_drop, List.drop_drop]
    congr 2; omega
  rw [show 0 + ((k : Int).toNat) * 1 = k by omega, wr, e2, List.length_singleton, e3, addTo, e1]
  simp
theorem addTo_all {h r : List UInt32} (he : h.length = r.length) : addTo h r h.length = List.zipWith (· + ·) h r := by
  simp [addTo]
  rw [List.take_of_length_le (by simp; omega)]

theorem rot_and {k : Nat} (h0 : 0 < k) (h1 : k < 32) : IntKind.u64.wrap (((BitVec.ofInt IntKind.u64.bits (18446744073709551616 - (k : Int)) &&& BitVec.ofInt IntKind.u64.bits 31).toNat : Nat) : Int) = ((32 - k : Nat) : Int) := by
  have : ∀ j : Nat, j < 32 → 0 < j → IntKind.u64.wrap (((BitVec.ofInt IntKind.u64.bits (18446744073709551616 - (j : Int)) &&& BitVec.ofInt IntKind.u64.bits 31).toNat : Nat) : Int) = ((32 - j : Nat) : Int) := by decide
  exact this k h1 h0
theorem rot_cc (H : Gh) (L : Chunks) (x : UInt32) (k : Nat) (n : Int) (hn : n = -(k : Int)) (h0 : 0 < k) (h1 : k < 32) :
    CC Tryd.prog 129 #[w32 x, i64 n] H L (fun v H' L' => v = w32 (rotr x k) ∧ H = H' ∧ L = L') := by
  refine cc_of Tryd.func129 rfl (Nat.le_of_ble_eq_true rfl) ?_
  simp only [Tryd.ntmps129]
  refine gc_seq ?_
  refine gc_seqr [(.mv, 0)] rfl ?_
  refine gr_rd rfl rfl rfl (rd_assign rfl) ?_
  refine gr_nil ?_
  refine gk_then ?_
  refine gc_seq ?_
  refine gc_seqr [(.mv, 0), (.mv, 1), (.mv, 2), (.mv, 3)] rfl ?_
  refine gr_rd rfl rfl rfl (rd_move rfl) ?_
  refine gr_rd rfl rfl rfl (rd_convInt Tryd.underlying3 Tryd.underlying39 rfl (r := 18446744073709551616 - (k : Int)) (by rw [hn, IntKind.wrap_u64]; omega)) ?_
  refine gr_rd rfl rfl rfl (rd_bits (.inl rfl) rfl rfl (r := ((32 - k : Nat) : Int)) (rot_and h0 h1)) ?_
  refine gr_rd rfl rfl rfl (rd_assign rfl) ?_
  refine gr_nil ?_
  refine gk_then ?_
  refine gc_seq ?_
  refine gc_seqr [(.mv, 0), (.mv, 1), (.mv, 2), (.mv, 3), (.mv, 4), (.mv, 5), (.mv, 6), (.mv, 7), (.mv, 8)] rfl ?_
  refine gr_rd rfl rfl rfl (rd_move rfl) ?_
  refine gr_rd rfl rfl rfl (rd_move rfl) ?_
  refine gr_rd rfl rfl rfl (rd_shl32 (k := 32 - k) (by omega) rfl rfl rfl) ?_
  refine gr_rd rfl rfl rfl (rd_move rfl) ?_
  refine gr_rd rfl rfl rfl (rd_move rfl) ?_
  refine gr_rd rfl rfl rfl (rd_sub rfl rfl (r := (k : Int)) (by rw [IntKind.wrap_u64]; omega)) ?_
  refine gr_rd rfl rfl rfl (rd_shr32 (k := k) (by omega) rfl rfl rfl) ?_
  (first | refine gr_rd rfl rfl rfl (rd_or32 rfl rfl) ?_ | refine gr_rd rfl rfl rfl (rd_bits (by simp) rfl rfl rfl) ?_)
  refine gr_rd rfl rfl rfl (rd_assign rfl) ?_
  refine gr_nil ?_
  refine gk_then ?_
  refine gc_ret ?_
  refine gk_result (L' := L) (.inl rfl) _ (res1 rfl rfl) (by repeat (first | exact List.Sublist.refl _ | apply List.Sublist.cons_cons | apply List.Sublist.cons | apply List.Sublist.append (List.Sublist.refl _) | refine List.Sublist.trans ?_ (List.sublist_append_right _ _))) (by first | exact Gh.le_refl _ | assumption | exact Gh.le_trans (by assumption) (by assumption)) ?_
  exact ⟨by rw [rotr, UInt32.or_comm], rfl, rfl⟩
theorem turn_cc (H : Gh) (L : Chunks) (x : UInt32) (k : Nat) (n : Int) (hn : n = (k : Int)) (h0 : 0 < k) (h1 : k < 32) :
    CC Tryd.prog 98 #[w32 x, .int .u32 n] H L (fun v H' L' => v = w32 (rotr x k) ∧ H = H' ∧ L = L') := by
  refine cc_of Tryd.func98 rfl (Nat.le_of_ble_eq_true rfl) ?_
  simp only [Tryd.ntmps98]
  refine gc_seq ?_
  refine gc_seqr [(.mv, 0)] rfl ?_
  refine gr_rd rfl rfl rfl (rd_assign rfl) ?_
  refine gr_nil ?_
  refine gk_then ?_
  refine gc_seq ?_
  refine gc_seqr [(.mv, 0), (.mv, 1), (.mv, 2), (.mv, 3), (.mv, 4), (.mv, 5), (.mv, 6), (.mv, 7), (.mv, 8)] rfl ?_
  refine gr_rd rfl rfl rfl (rd_move rfl) ?_
  refine gr_rd rfl rfl rfl (rd_move rfl) ?_
  refine gr_rd rfl rfl rfl (rd_shr32 (k := k) (by omega) rfl rfl hn) ?_
  refine gr_rd rfl rfl rfl (rd_move rfl) ?_
  refine gr_rd rfl rfl rfl (rd_move rfl) ?_
  refine gr_rd rfl rfl rfl (rd_sub rfl rfl (r := ((32 - k : Nat) : Int)) (by rw [hn, IntKind.wrap_u32]; omega)) ?_
  refine gr_rd rfl rfl rfl (rd_shl32 (k := 32 - k) (by omega) rfl rfl rfl) ?_
  (first | refine gr_rd rfl rfl rfl (rd_or32 rfl rfl) ?_ | refine gr_rd rfl rfl rfl (rd_bits (by simp) rfl rfl rfl) ?_)
  refine gr_rd rfl rfl rfl (rd_assign rfl) ?_
  refine gr_nil ?_
  refine gk_then ?_
  refine gc_ret ?_
  refine gk_result (L' := L) (.inl rfl) _ (res1 rfl rfl) (by repeat (first | exact List.Sublist.refl _ | apply List.Sublist.cons_cons | apply List.Sublist.cons | apply List.Sublist.append (List.Sublist.refl _) | refine List.Sublist.trans ?_ (List.sublist_append_right _ _))) (by first | exact Gh.le_refl _ | assumption | exact Gh.le_trans (by assumption) (by assumption)) ?_
  exact ⟨rfl, rfl, rfl⟩
theorem mix_cc (H : Gh) {Tg : TypeId} {zg : Nat × Nat} (hG : H.imm 2 = some (.cells (roundK.map w32).toArray Tg zg)) (L : Chunks) (h : List UInt32) (hh : h.length = 8) (b : Nat) (T : TypeId)
    (bp op cap : Nat) (lp : List Value) (p : Bs) (hm : p.length = 64) (hcp0 : Cells H L bp lp) (hs : Seg lp op (p.map u8v)) :
    CC Tryd.prog 114 #[pt b 0, .slice (some ⟨bp, op, none⟩) 64 cap] H ((b, .cells (h.map w32).toArray T (0, 0)) :: L) (fun _ H' L' => H = H' ∧ (b, .cells ((mixH h p).map w32).toArray T (0, 0)) :: L = L') := by
  obtain ⟨h0, h1, h2, h3, h4, h5, h6, h7, he⟩ := list8 hh
  refine cc_of Tryd.func114 rfl (Nat.le_of_ble_eq_true rfl) ?_
  simp only [Tryd.ntmps114]
  refine gc_seq ?_
  refine gc_seqr [(.nm, 0)] rfl ?_
  refine gr_nx rfl rfl rfl (nx_alloc Tryd.zeroValue167 rfl) ?_; rintro _ _ _ _ ⟨b4, rfl, rfl, rfl⟩; refine ⟨trivial, ?_⟩
  refine gr_nil ?_
  refine gk_then ?_
  refine gc_seq ?_
  refine gc_seq ?_
  refine gc_seqr [(.mv, 0)] rfl ?_
  refine gr_rd rfl rfl rfl (rd_move rfl) ?_
  refine gr_nil ?_
  refine gk_then ?_
  refine gc_block ?_
  refine gc_loop (fun k : Nat => [(0, pt b 0), (1, .slice (some ⟨bp, op, none⟩) 64 cap), (4, pt b4 0), (15, i64 k)]) (fun k H1 L1 => H = H1 ∧ (b4, .cells ((wordsTo p k ++ List.replicate (64 - k) 0).map w32).toArray 167 (0, 0)) :: (b, .cells (h.map w32).toArray T (0, 0)) :: L = L1 ∧ k ≤ 64) (fun k => 64 - k) (0) ?_ (by repeat (first | exact Subs.nil | refine Subs.cons rfl ?_)) ?_
  · exact ⟨rfl, rfl, Nat.zero_le _⟩
  · rintro k H1 L1 ⟨rfl, rfl, hk⟩
    refine gc_seq ?_
    refine gc_seqr [(.mv, 0)] rfl ?_
    refine gr_rd rfl rfl rfl (rd_lss rfl rfl) ?_
    refine gr_nil ?_
    refine gk_then ?_
    refine gc_seq ?_
    refine gc_cond rfl (fun hc0 => ?_) (fun hc0 => ?_)
    · have hk64 : k < 64 := by simp at hc0; omega
      have hcp : Cells H ((b4, .cells ((wordsTo p k ++ List.replicate (64 - k) 0).map w32).toArray 167 (0, 0)) :: (b, .cells (h.map w32).toArray T (0, 0)) :: L) bp lp := hcp0.mono (Gh.le_refl _) (fun x hx => List.mem_cons_of_mem _ (List.mem_cons_of_mem _ hx))
      refine gc_skip ?_
      refine gk_then ?_
      refine gc_seq ?_
      refine gc_block ?_
      refine gc_seq ?_
      refine gc_seqr [(.mv, 0), (.mv, 1)] rfl ?_
      refine gr_rd rfl rfl rfl (rd_move rfl) ?_
      refine gr_rd rfl rfl rfl (rd_assign rfl) ?_
      refine gr_nil ?_
      refine gk_then ?_
      refine gc_seq ?_
      refine gc_seq ?_
      refine gc_seqr [(.mv, 0), (.mv, 1)] rfl ?_
      refine gr_rd rfl rfl rfl (rd_move rfl) ?_
      refine gr_rd rfl rfl rfl (rd_lss rfl rfl) ?_
      refine gr_nil ?_
      refine gk_then ?_
      refine gc_cond rfl (fun hc1 => ?_) (fun hc1 => ?_)
      · have hk16 : k < 16 := by simp at hc1; omega
        refine gc_seq ?_
        refine gc_draw Tryd.mixed [(.mv, 0), (.mv, 1), (.mv, 2), (.mv, 3), (.mv, 4), (.mv, 5), (.mv, 6), (.mv, 7), (.mv, 8), (.mv, 9), (.mv, 10), (.mv, 11), (.mv, 12), (.mv, 13), (.mv, 14), (.mv, 15), (.mv, 16), (.mv, 17), (.mv, 18), (.mv, 19), (.mv, 20), (.mv, 21), (.mv, 22), (.mv, 23), (.mv, 24), (.mv, 25), (.mv, 26), (.mv, 27), (.mv, 28), (.mv, 29), (.mv, 30), (.mv, 31), (.mv, 32), (.mv, 33), (.mv, 34), (.fin, 35)] (by decide +kernel) _ (List.Sublist.refl _) ?_
        refine gr_rd rfl rfl rfl (rd_move rfl) ?_
        refine gr_rd rfl rfl rfl (rd_move rfl) ?_
        refine gr_rd rfl rfl rfl (rd_move rfl) ?_
        (first | refine gr_rd rfl rfl rfl (rd_mul rfl rfl (IntWalk.i64_in _ (by omega))) ?_ | refine gr_rd rfl rfl rfl (rd_mul rfl rfl rfl) ?_)
        refine gr_rd rfl rfl rfl (rd_indexS Tryd.underlying117 Tryd.sizeOf5 rfl rfl rfl (by omega) (by omega)) ?_
        refine gr_rd rfl rfl rfl (rd_load1 Tryd.to5 rfl hcp (byte_at hs (j := 4 * k) (by omega) (by omega))) ?_
        refine gr_rd rfl rfl rfl (rd_conv8_32 Tryd.underlying5 Tryd.underlying135 rfl) ?_
        refine gr_rd rfl rfl rfl (rd_shl32 (k := 24) (by decide) rfl rfl rfl) ?_
        refine gr_rd rfl rfl rfl (rd_move rfl) ?_
        refine gr_rd rfl rfl rfl (rd_move rfl) ?_
        (first | refine gr_rd rfl rfl rfl (rd_mul rfl rfl (IntWalk.i64_in _ (by omega))) ?_ | refine gr_rd rfl rfl rfl (rd_mul rfl rfl rfl) ?_)
        (first | refine gr_rd rfl rfl rfl (rd_add rfl rfl (IntWalk.i64_in _ (by omega))) ?_ | refine gr_rd rfl rfl rfl (rd_add rfl rfl rfl) ?_)
        refine gr_rd rfl rfl rfl (rd_indexS Tryd.underlying117 Tryd.sizeOf5 rfl rfl rfl (by omega) (by omega)) ?_
        refine gr_rd rfl rfl rfl (rd_load1 Tryd.to5 rfl hcp (byte_at hs (j := 4 * k + 1) (by omega) (by omega))) ?_
        refine gr_rd rfl rfl rfl (rd_conv8_32 Tryd.underlying5 Tryd.underlying135 rfl) ?_
        refine gr_rd rfl rfl rfl (rd_shl32 (k := 16) (by decide) rfl rfl rfl) ?_
        (first | refine gr_rd rfl rfl rfl (rd_or32 rfl rfl) ?_ | refine gr_rd rfl rfl rfl (rd_bits (by simp) rfl rfl rfl) ?_)
        refine gr_rd rfl rfl rfl (rd_move rfl) ?_
        refine gr_rd rfl rfl rfl (rd_move rfl) ?_
        (first | refine gr_rd rfl rfl rfl (rd_mul rfl rfl (IntWalk.i64_in _ (by omega))) ?_ | refine gr_rd rfl rfl rfl (rd_mul rfl rfl rfl) ?_)
        (first | refine gr_rd rfl rfl rfl (rd_add rfl rfl (IntWalk.i64_in _ (by omega))) ?_ | refine gr_rd rfl rfl rfl (rd_add rfl rfl rfl) ?_)
        refine gr_rd rfl rfl rfl (rd_indexS Tryd.underlying117 Tryd.sizeOf5 rfl rfl rfl (by omega) (by omega)) ?_
        refine gr_rd rfl rfl rfl (rd_load1 Tryd.to5 rfl hcp (byte_at hs (j := 4 * k + 2) (by omega) (by omega))) ?_
        refine gr_rd rfl rfl rfl (rd_conv8_32 Tryd.underlying5 Tryd.underlying135 rfl) ?_
        refine gr_rd rfl rfl rfl (rd_shl32 (k := 8) (by decide) rfl rfl rfl) ?_
        (first | refine gr_rd rfl rfl rfl (rd_or32 rfl rfl) ?_ | refine gr_rd rfl rfl rfl (rd_bits (by simp) rfl rfl rfl) ?_)
        refine gr_rd rfl rfl rfl (rd_move rfl) ?_
        refine gr_rd rfl rfl rfl (rd_move rfl) ?_
        (first | refine gr_rd rfl rfl rfl (rd_mul rfl rfl (IntWalk.i64_in _ (by omega))) ?_ | refine gr_rd rfl rfl rfl (rd_mul rfl rfl rfl) ?_)
        (first | refine gr_rd rfl rfl rfl (rd_add rfl rfl (IntWalk.i64_in _ (by omega))) ?_ | refine gr_rd rfl rfl rfl (rd_add rfl rfl rfl) ?_)
        refine gr_rd rfl rfl rfl (rd_indexS Tryd.underlying117 Tryd.sizeOf5 rfl rfl rfl (by omega) (by omega)) ?_
        refine gr_rd rfl rfl rfl (rd_load1 Tryd.to5 rfl hcp (byte_at hs (j := 4 * k + 3) (by omega) (by omega))) ?_
        refine gr_rd rfl rfl rfl (rd_conv8_32 Tryd.underlying5 Tryd.underlying135 rfl) ?_
        (first | refine gr_rd rfl rfl rfl (rd_or32 rfl rfl) ?_ | refine gr_rd rfl rfl rfl (rd_bits (by simp) rfl rfl rfl) ?_)
        refine gr_rd rfl rfl rfl (rd_indexA Tryd.underlying167 Tryd.sizeOf135 rfl rfl (by omega) (by omega)) ?_
        refine gr_fin0 rfl rfl (nx_store (vs := [_]) Tryd.sizeOf135 rfl rfl rfl rfl Upd.here (words_fit (by omega) _) (oneCells_of_all rfl)) ?_; rintro _ _ _ _ ⟨rfl, rfl, rfl⟩
        refine gr_nil ?_
        refine gk_then ?_
        refine gc_exit ?_
        refine gk_exit_then ?_
        refine gk_here ?_
        refine gk_then ?_
        refine gc_seqr [(.mv, 0), (.mv, 1)] rfl ?_
        (first | refine gr_rd rfl rfl rfl (rd_add rfl rfl (IntWalk.i64_in _ (by omega))) ?_ | refine gr_rd rfl rfl rfl (rd_add rfl rfl rfl) ?_)
        refine gr_rd rfl rfl rfl (rd_move rfl) ?_
        refine gr_nil ?_
        refine gk_round (k + 1) (by omega) ⟨rfl, ?_, by omega⟩ (by repeat (first | exact Subs.nil | refine Subs.cons rfl ?_))
        first
          | rw [words_next hk64 (by rw [if_pos hk16]; rfl)]
          | rw [words_next hk64 (by rw [if_neg hk16]; rfl)]
      · have hk16 : ¬ k < 16 := by simp at hc1; omega
        refine gc_skip ?_
        refine gk_then ?_
        refine gc_seq ?_
        refine gc_draw Tryd.mixed [(.mv, 0), (.mv, 1), (.mv, 2), (.mv, 3), (.mv, 4), (.mv, 5), (.mv, 6), (.mv, 7), (.mv, 8), (.mv, 9)] (by decide +kernel) _ (List.Sublist.refl _) ?_
        refine gr_rd rfl rfl rfl (rd_move rfl) ?_
        (first | refine gr_rd rfl rfl rfl (rd_sub rfl rfl (IntWalk.i64_in _ (by omega))) ?_ | refine gr_rd rfl rfl rfl (rd_sub rfl rfl rfl) ?_)
        refine gr_rd rfl rfl rfl (rd_indexA Tryd.underlying167 Tryd.sizeOf135 rfl rfl (by omega) (by omega)) ?_
        refine gr_rd rfl rfl rfl (rd_load1 Tryd.to135 rfl ⟨_, _, .inr List.mem_cons_self⟩ (words_at (j := k - 15) (by omega) (by omega))) ?_
        refine gr_rd rfl rfl rfl (rd_move rfl) ?_
        (first | refine gr_rd rfl rfl rfl (rd_sub rfl rfl (IntWalk.i64_in _ (by omega))) ?_ | refine gr_rd rfl rfl rfl (rd_sub rfl rfl rfl) ?_)
        refine gr_rd rfl rfl rfl (rd_indexA Tryd.underlying167 Tryd.sizeOf135 rfl rfl (by omega) (by omega)) ?_
        refine gr_rd rfl rfl rfl (rd_load1 Tryd.to135 rfl ⟨_, _, .inr List.mem_cons_self⟩ (words_at (j := k - 2) (by omega) (by omega))) ?_
        refine gr_rd rfl rfl rfl (rd_assign rfl) ?_
        refine gr_rd rfl rfl rfl (rd_assign rfl) ?_
        refine gr_nil ?_
        refine gk_then ?_
        refine gc_draw Tryd.mixed [(.mv, 0), (.mv, 1), (.mv, 2), (.mv, 3), (.mv, 4), (.mv, 5), (.mv, 6), (.mv, 7), (.mv, 8), (.mv, 9), (.mv, 10), (.mv, 12), (.mv, 15), (.mv, 16), (.mv, 19), (.mv, 21), (.mv, 24), (.mv, 25), (.nm, 11), (.nm, 13), (.mv, 14), (.mv, 17), (.mv, 18), (.nm, 20), (.nm, 22), (.mv, 23), (.mv, 26), (.mv, 27), (.mv, 28), (.fin, 29)] (by decide +kernel) _ (List.Sublist.refl _) ?_
        refine gr_rd rfl rfl rfl (rd_move rfl) ?_
        refine gr_rd rfl rfl rfl (rd_move rfl) ?_
        (first | refine gr_rd rfl rfl rfl (rd_sub rfl rfl (IntWalk.i64_in _ (by omega))) ?_ | refine gr_rd rfl rfl rfl (rd_sub rfl rfl rfl) ?_)
        refine gr_rd rfl rfl rfl (rd_indexA Tryd.underlying167 Tryd.sizeOf135 rfl rfl (by omega) (by omega)) ?_
        refine gr_rd rfl rfl rfl (rd_load1 Tryd.to135 rfl ⟨_, _, .inr List.mem_cons_self⟩ (words_at (j := k - 16) (by omega) (by omega))) ?_
        refine gr_rd rfl rfl rfl (rd_move rfl) ?_
        (first | refine gr_rd rfl rfl rfl (rd_sub rfl rfl (IntWalk.i64_in _ (by omega))) ?_ | refine gr_rd rfl rfl rfl (rd_sub rfl rfl rfl) ?_)
        refine gr_rd rfl rfl rfl (rd_indexA Tryd.underlying167 Tryd.sizeOf135 rfl rfl (by omega) (by omega)) ?_
        refine gr_rd rfl rfl rfl (rd_load1 Tryd.to135 rfl ⟨_, _, .inr List.mem_cons_self⟩ (words_at (j := k - 7) (by omega) (by omega))) ?_
        (first | refine gr_rd rfl rfl rfl (rd_add32 rfl rfl) ?_ | refine gr_rd rfl rfl rfl (rd_add rfl rfl rfl) ?_)
        refine gr_rd rfl rfl rfl (rd_move rfl) ?_
        refine gr_rd rfl rfl rfl (rd_move rfl) ?_
        refine gr_rd rfl rfl rfl (rd_move rfl) ?_
        refine gr_rd rfl rfl rfl (rd_shr32 (k := 3) (by decide) rfl rfl rfl) ?_
        refine gr_rd rfl rfl rfl (rd_move rfl) ?_
        refine gr_rd rfl rfl rfl (rd_move rfl) ?_
        refine gr_rd rfl rfl rfl (rd_move rfl) ?_
        refine gr_rd rfl rfl rfl (rd_shr32 (k := 10) (by decide) rfl rfl rfl) ?_
        refine gr_nx rfl rfl rfl (nx_call Tryd.en129 rfl (rot_cc _ _ _ 7 (-7) rfl (by decide) (by decide))) ?_; rintro v74 H' L' hle ⟨rfl, rfl, rfl⟩; refine ⟨⟨(by first | exact Gh.le_refl _ | assumption | exact Gh.le_trans (by assumption) (by assumption)), (by repeat (first | exact List.Sublist.refl _ | exact List.nil_sublist _ | apply List.Sublist.cons_cons | apply List.Sublist.cons | apply List.Sublist.append (List.Sublist.refl _) | refine List.Sublist.trans ?_ (List.sublist_append_right _ _)))⟩, ?_⟩
        refine gr_nx rfl rfl rfl (nx_call Tryd.en129 rfl (rot_cc _ _ _ 18 (-18) rfl (by decide) (by decide))) ?_; rintro v76 H' L' hle ⟨rfl, rfl, rfl⟩; refine ⟨⟨(by first | exact Gh.le_refl _ | assumption | exact Gh.le_trans (by assumption) (by assumption)), (by repeat (first | exact List.Sublist.refl _ | exact List.nil_sublist _ | apply List.Sublist.cons_cons | apply List.Sublist.cons | apply List.Sublist.append (List.Sublist.refl _) | refine List.Sublist.trans ?_ (List.sublist_append_right _ _)))⟩, ?_⟩
        (first | refine gr_rd rfl rfl rfl (rd_xor32 rfl rfl) ?_ | refine gr_rd rfl rfl rfl (rd_bits (by simp) rfl rfl rfl) ?_)
        (first | refine gr_rd rfl rfl rfl (rd_xor32 rfl rfl) ?_ | refine gr_rd rfl rfl rfl (rd_bits (by simp) rfl rfl rfl) ?_)
        (first | refine gr_rd rfl rfl rfl (rd_add32 rfl rfl) ?_ | refine gr_rd rfl rfl rfl (rd_add rfl rfl rfl) ?_)
        refine gr_nx rfl rfl rfl (nx_call Tryd.en129 rfl (rot_cc _ _ _ 17 (-17) rfl (by decide) (by decide))) ?_; rintro v83 H' L' hle ⟨rfl, rfl, rfl⟩; refine ⟨⟨(by first | exact Gh.le_refl _ | assumption | exact Gh.le_trans (by assumption) (by assumption)), (by repeat (first | exact List.Sublist.refl _ | exact List.nil_sublist _ | apply List.Sublist.cons_cons | apply List.Sublist.cons | apply List.Sublist.append (List.Sublist.refl _) | refine List.Sublist.trans ?_ (List.sublist_append_right _ _)))⟩, ?_⟩
        refine gr_nx rfl rfl rfl (nx_call Tryd.en129 rfl (rot_cc _ _ _ 19 (-19) rfl (by decide) (by decide))) ?_; rintro v85 H' L' hle ⟨rfl, rfl, rfl⟩; refine ⟨⟨(by first | exact Gh.le_refl _ | assumption | exact Gh.le_trans (by assumption) (by assumption)), (by repeat (first | exact List.Sublist.refl _ | exact List.nil_sublist _ | apply List.Sublist.cons_cons | apply List.Sublist.cons | apply List.Sublist.append (List.Sublist.refl _) | refine List.Sublist.trans ?_ (List.sublist_append_right _ _)))⟩, ?_⟩
        (first | refine gr_rd rfl rfl rfl (rd_xor32 rfl rfl) ?_ | refine gr_rd rfl rfl rfl (rd_bits (by simp) rfl rfl rfl) ?_)
        (first | refine gr_rd rfl rfl rfl (rd_xor32 rfl rfl) ?_ | refine gr_rd rfl rfl rfl (rd_bits (by simp) rfl rfl rfl) ?_)
        (first | refine gr_rd rfl rfl rfl (rd_add32 rfl rfl) ?_ | refine gr_rd rfl rfl rfl (rd_add rfl rfl rfl) ?_)
        refine gr_rd rfl rfl rfl (rd_indexA Tryd.underlying167 Tryd.sizeOf135 rfl rfl (by omega) (by omega)) ?_
        refine gr_fin0 rfl rfl (nx_store (vs := [_]) Tryd.sizeOf135 rfl rfl rfl rfl Upd.here (words_fit (by omega) _) (oneCells_of_all rfl)) ?_; rintro _ _ _ _ ⟨rfl, rfl, rfl⟩
        refine gr_nil ?_
        refine gk_inBlock ?_
        refine gk_then ?_
        refine gc_seqr [(.mv, 0), (.mv, 1)] rfl ?_
        (first | refine gr_rd rfl rfl rfl (rd_add rfl rfl (IntWalk.i64_in _ (by omega))) ?_ | refine gr_rd rfl rfl rfl (rd_add rfl rfl rfl) ?_)
        refine gr_rd rfl rfl rfl (rd_move rfl) ?_
        refine gr_nil ?_
        refine gk_round (k + 1) (by omega) ⟨rfl, ?_, by omega⟩ (by repeat (first | exact Subs.nil | refine Subs.cons rfl ?_))
        first
          | rw [words_next hk64 (by rw [if_pos hk16]; rfl)]
          | rw [words_next hk64 (by rw [if_neg hk16]; rfl)]
    · have hk2 : k = 64 := by simp at hc0; omega
      subst hk2
      have hW0 : wordsTo p 64 ++ List.replicate (64 - 64) 0 = wordsTo p 64 := List.append_nil _
      have hWl : (wordsTo p 64).length = 64 := wordsTo_length p 64
      rw [hW0]
      clear hW0
      generalize hW : wordsTo p 64 = W at hWl ⊢
      refine gc_exit ?_
      refine gk_exit_then ?_
      refine gk_exit_then ?_
      refine gk_here ?_
      refine gk_then ?_
      refine gc_seq ?_
      refine gc_seqr [(.mv, 0), (.mv, 1), (.mv, 2), (.nm, 3), (.nm, 4)] rfl ?_
      refine gr_rd rfl rfl rfl (rd_move rfl) ?_
      refine gr_rd rfl rfl rfl (rd_nilCheck rfl) ?_
      refine gr_rd rfl rfl rfl (rd_loadA Tryd.ta152 rfl ⟨_, _, .inr (List.mem_cons_of_mem _ List.mem_cons_self)⟩ (Seg.all _) (by rw [List.length_map, hh])) ?_
      refine gr_nx rfl rfl rfl (nx_alloc Tryd.zeroValue152 rfl) ?_; rintro _ _ _ _ ⟨b8, rfl, rfl, rfl⟩; refine ⟨trivial, ?_⟩
      refine gr_nx0 rfl rfl (nx_store Tryd.sizeOf152 rfl rfl rfl (by rw [Value.cells]; simp [hh]) Upd.here (by simp [Value.cells, hh]) (oneCells_w32 h)) ?_; rintro _ _ _ _ ⟨rfl, rfl, rfl⟩; refine ⟨trivial, ?_⟩
      refine gr_nil ?_
      refine gk_then ?_
      refine gc_seq ?_
      refine gc_seq ?_
      refine gc_seqr [(.mv, 0)] rfl ?_
      refine gr_rd rfl rfl rfl (rd_move rfl) ?_
      refine gr_nil ?_
      refine gk_then ?_
      refine gc_block ?_
      refine gc_loop (fun k : Nat => [(0, pt b 0), (4, pt b4 0), (8, pt b8 0), (96, i64 k)]) (fun k H1 L1 => H = H1 ∧ (b8, .cells ((roundsTo h W k).map w32).toArray 152 (0, 0)) :: (b4, .cells (W.map w32).toArray 167 (0, 0)) :: (b, .cells (h.map w32).toArray T (0, 0)) :: L = L1 ∧ k ≤ 64) (fun k => 64 - k) (0) ?_ (by repeat (first | exact Subs.nil | refine Subs.cons rfl ?_)) ?_
      · refine ⟨rfl, ?_, Nat.zero_le _⟩
        subst he
        rfl
      · rintro k H1 L1 ⟨rfl, rfl, hk⟩
        refine gc_seq ?_
        refine gc_seqr [(.mv, 0)] rfl ?_
        refine gr_rd rfl rfl rfl (rd_lss rfl rfl) ?_
        refine gr_nil ?_
        refine gk_then ?_
        refine gc_seq ?_
        refine gc_cond rfl (fun hc2 => ?_) (fun hc2 => ?_)
        · have hk64 : k < 64 := by simp at hc2; omega
          obtain ⟨a0, a1, a2, a3, a4, a5, a6, a7, hr⟩ := list8 (roundsTo_length h W hh k)
          rw [hr]
          refine gc_skip ?_
          refine gk_then ?_
          refine gc_seq ?_
          refine gc_block ?_
          refine gc_seq ?_
          refine gc_seqr [(.mv, 0), (.mv, 1)] rfl ?_
          refine gr_rd rfl rfl rfl (rd_move rfl) ?_
          refine gr_rd rfl rfl rfl (rd_assign rfl) ?_
          refine gr_nil ?_
          refine gk_then ?_
          refine gc_seq ?_
          refine gc_draw Tryd.mixed [(.mv, 0), (.mv, 1), (.mv, 2), (.mv, 3), (.mv, 4), (.mv, 5)] (by decide +kernel) _ (List.Sublist.refl _) ?_
          refine gr_rd rfl rfl rfl (rd_indexA Tryd.underlying152 Tryd.sizeOf135 rfl rfl (by omega) (by omega)) ?_
          refine gr_rd rfl rfl rfl (rd_load1 Tryd.to135 rfl (by first | (apply Cells.own; (repeat (first | exact List.mem_cons_self | apply List.mem_cons_of_mem)); done) | assumption) (by first | rfl | assumption | exact encOp_37 _ _ | exact encOp_36 _ _ | exact encOp_35 _ _ | exact encOp_0 _ _ | exact encOp_1 _ _ | exact encOp_2 _ _ | exact encDraft_0 _ | exact encDraft_1 _ | exact encDraft_2 _ | simp)) ?_
          refine gr_rd rfl rfl rfl (rd_indexA Tryd.underlying152 Tryd.sizeOf135 rfl rfl (by omega) (by omega)) ?_
          refine gr_rd rfl rfl rfl (rd_load1 Tryd.to135 rfl (by first | (apply Cells.own; (repeat (first | exact List.mem_cons_self | apply List.mem_cons_of_mem)); done) | assumption) (by first | rfl | assumption | exact encOp_37 _ _ | exact encOp_36 _ _ | exact encOp_35 _ _ | exact encOp_0 _ _ | exact encOp_1 _ _ | exact encOp_2 _ _ | exact encDraft_0 _ | exact encDraft_1 _ | exact encDraft_2 _ | simp)) ?_
          refine gr_rd rfl rfl rfl (rd_assign rfl) ?_
          refine gr_rd rfl rfl rfl (rd_assign rfl) ?_
          refine gr_nil ?_
          refine gk_then ?_
          refine gc_seq ?_
          refine gc_draw Tryd.mixed [(.mv, 0), (.mv, 1), (.mv, 2), (.mv, 4), (.mv, 7), (.mv, 11), (.mv, 12), (.mv, 13), (.mv, 14), (.mv, 15), (.mv, 16), (.mv, 17), (.mv, 18), (.mv, 19), (.mv, 20), (.mv, 22), (.mv, 23), (.mv, 24), (.mv, 26), (.mv, 27), (.mv, 28), (.nm, 3), (.nm, 5), (.mv, 6), (.nm, 8), (.mv, 9), (.mv, 10), (.mv, 21), (.mv, 25), (.mv, 29), (.mv, 30)] (by decide +kernel) _ (List.Sublist.refl _) ?_
          refine gr_rd rfl rfl rfl (rd_indexA Tryd.underlying152 Tryd.sizeOf135 rfl rfl (by omega) (by omega)) ?_
          refine gr_rd rfl rfl rfl (rd_load1 Tryd.to135 rfl (by first | (apply Cells.own; (repeat (first | exact List.mem_cons_self | apply List.mem_cons_of_mem)); done) | assumption) (by first | rfl | assumption | exact encOp_37 _ _ | exact encOp_36 _ _ | exact encOp_35 _ _ | exact encOp_0 _ _ | exact encOp_1 _ _ | exact encOp_2 _ _ | exact encDraft_0 _ | exact encDraft_1 _ | exact encDraft_2 _ | simp)) ?_
          refine gr_rd rfl rfl rfl (rd_move rfl) ?_
          refine gr_rd rfl rfl rfl (rd_move rfl) ?_
          refine gr_rd rfl rfl rfl (rd_move rfl) ?_
          refine gr_rd rfl rfl rfl (rd_move rfl) ?_
          refine gr_rd rfl rfl rfl (rd_indexA Tryd.underlying152 Tryd.sizeOf135 rfl rfl (by omega) (by omega)) ?_
          refine gr_rd rfl rfl rfl (rd_load1 Tryd.to135 rfl (by first | (apply Cells.own; (repeat (first | exact List.mem_cons_self | apply List.mem_cons_of_mem)); done) | assumption) (by first | rfl | assumption | exact encOp_37 _ _ | exact encOp_36 _ _ | exact encOp_35 _ _ | exact encOp_0 _ _ | exact encOp_1 _ _ | exact encOp_2 _ _ | exact encDraft_0 _ | exact encDraft_1 _ | exact encDraft_2 _ | simp)) ?_
          (first | refine gr_rd rfl rfl rfl (rd_and32 rfl rfl) ?_ | refine gr_rd rfl rfl rfl (rd_bits (by simp) rfl rfl rfl) ?_)
          refine gr_rd rfl rfl rfl (rd_move rfl) ?_
          refine gr_rd rfl rfl rfl (rd_not32 rfl) ?_
          refine gr_rd rfl rfl rfl (rd_indexA Tryd.underlying152 Tryd.sizeOf135 rfl rfl (by omega) (by omega)) ?_
          refine gr_rd rfl rfl rfl (rd_load1 Tryd.to135 rfl (by first | (apply Cells.own; (repeat (first | exact List.mem_cons_self | apply List.mem_cons_of_mem)); done) | assumption) (by first | rfl | assumption | exact encOp_37 _ _ | exact encOp_36 _ _ | exact encOp_35 _ _ | exact encOp_0 _ _ | exact encOp_1 _ _ | exact encOp_2 _ _ | exact encDraft_0 _ | exact encDraft_1 _ | exact encDraft_2 _ | simp)) ?_
          (first | refine gr_rd rfl rfl rfl (rd_and32 rfl rfl) ?_ | refine gr_rd rfl rfl rfl (rd_bits (by simp) rfl rfl rfl) ?_)
          (first | refine gr_rd rfl rfl rfl (rd_xor32 rfl rfl) ?_ | refine gr_rd rfl rfl rfl (rd_bits (by simp) rfl rfl rfl) ?_)
          refine gr_rd rfl rfl rfl (rd_move rfl) ?_
          refine gr_rd rfl rfl rfl (rd_indexA Tryd.underlying167 Tryd.sizeOf135 rfl rfl (by omega) (by omega)) ?_
          refine gr_rd rfl rfl rfl (rd_load1 Tryd.to135 rfl ⟨_, _, .inl hG⟩ (w32_at2 roundK (j := k) hk64 rfl)) ?_
          refine gr_rd rfl rfl rfl (rd_move rfl) ?_
          refine gr_rd rfl rfl rfl (rd_indexA Tryd.underlying167 Tryd.sizeOf135 rfl rfl (by omega) (by omega)) ?_
          refine gr_rd rfl rfl rfl (rd_load1 Tryd.to135 rfl ⟨_, _, .inr (List.mem_cons_of_mem _ List.mem_cons_self)⟩ (w32_at2 W (j := k) (by omega) rfl)) ?_
          refine gr_nx rfl rfl rfl (nx_call Tryd.en129 rfl (rot_cc _ _ _ 6 (-6) rfl (by decide) (by decide))) ?_; rintro v106 H' L' hle ⟨rfl, rfl, rfl⟩; refine ⟨⟨(by first | exact Gh.le_refl _ | assumption | exact Gh.le_trans (by assumption) (by assumption)), (by repeat (first | exact List.Sublist.refl _ | exact List.nil_sublist _ | apply List.Sublist.cons_cons | apply List.Sublist.cons | apply List.Sublist.append (List.Sublist.refl _) | refine List.Sublist.trans ?_ (List.sublist_append_right _ _)))⟩, ?_⟩
          refine gr_nx rfl rfl rfl (nx_call Tryd.en129 rfl (rot_cc _ _ _ 11 (-11) rfl (by decide) (by decide))) ?_; rintro v108 H' L' hle ⟨rfl, rfl, rfl⟩; refine ⟨⟨(by first | exact Gh.le_refl _ | assumption | exact Gh.le_trans (by assumption) (by assumption)), (by repeat (first | exact List.Sublist.refl _ | exact List.nil_sublist _ | apply List.Sublist.cons_cons | apply List.Sublist.cons | apply List.Sublist.append (List.Sublist.refl _) | refine List.Sublist.trans ?_ (List.sublist_append_right _ _)))⟩, ?_⟩
          (first | refine gr_rd rfl rfl rfl (rd_xor32 rfl rfl) ?_ | refine gr_rd rfl rfl rfl (rd_bits (by simp) rfl rfl rfl) ?_)
          refine gr_nx rfl rfl rfl (nx_call Tryd.en129 rfl (rot_cc _ _ _ 25 (-25) rfl (by decide) (by decide))) ?_; rintro v111 H' L' hle ⟨rfl, rfl, rfl⟩; refine ⟨⟨(by first | exact Gh.le_refl _ | assumption | exact Gh.le_trans (by assumption) (by assumption)), (by repeat (first | exact List.Sublist.refl _ | exact List.nil_sublist _ | apply List.Sublist.cons_cons | apply List.Sublist.cons | apply List.Sublist.append (List.Sublist.refl _) | refine List.Sublist.trans ?_ (List.sublist_append_right _ _)))⟩, ?_⟩
          (first | refine gr_rd rfl rfl rfl (rd_xor32 rfl rfl) ?_ | refine gr_rd rfl rfl rfl (rd_bits (by simp) rfl rfl rfl) ?_)
          (first | refine gr_rd rfl rfl rfl (rd_add32 rfl rfl) ?_ | refine gr_rd rfl rfl rfl (rd_add rfl rfl rfl) ?_)
          (first | refine gr_rd rfl rfl rfl (rd_add32 rfl rfl) ?_ | refine gr_rd rfl rfl rfl (rd_add rfl rfl rfl) ?_)
          (first | refine gr_rd rfl rfl rfl (rd_add32 rfl rfl) ?_ | refine gr_rd rfl rfl rfl (rd_add rfl rfl rfl) ?_)
          (first | refine gr_rd rfl rfl rfl (rd_add32 rfl rfl) ?_ | refine gr_rd rfl rfl rfl (rd_add rfl rfl rfl) ?_)
          refine gr_rd rfl rfl rfl (rd_assign rfl) ?_
          refine gr_nil ?_
          refine gk_then ?_
          refine gc_seq ?_
          refine gc_draw Tryd.mixed [(.mv, 0), (.mv, 2), (.mv, 5), (.mv, 8), (.mv, 9), (.mv, 10), (.mv, 11), (.mv, 12), (.mv, 13), (.mv, 14), (.mv, 15), (.mv, 16), (.mv, 17), (.mv, 18), (.mv, 19), (.mv, 20), (.mv, 21), (.mv, 22), (.nm, 1), (.nm, 3), (.mv, 4), (.nm, 6), (.mv, 7), (.mv, 23), (.mv, 24)] (by decide +kernel) _ (List.Sublist.refl _) ?_
          refine gr_rd rfl rfl rfl (rd_move rfl) ?_
          refine gr_rd rfl rfl rfl (rd_move rfl) ?_
          refine gr_rd rfl rfl rfl (rd_move rfl) ?_
          refine gr_rd rfl rfl rfl (rd_move rfl) ?_
          refine gr_rd rfl rfl rfl (rd_indexA Tryd.underlying152 Tryd.sizeOf135 rfl rfl (by omega) (by omega)) ?_
          refine gr_rd rfl rfl rfl (rd_load1 Tryd.to135 rfl (by first | (apply Cells.own; (repeat (first | exact List.mem_cons_self | apply List.mem_cons_of_mem)); done) | assumption) (by first | rfl | assumption | exact encOp_37 _ _ | exact encOp_36 _ _ | exact encOp_35 _ _ | exact encOp_0 _ _ | exact encOp_1 _ _ | exact encOp_2 _ _ | exact encDraft_0 _ | exact encDraft_1 _ | exact encDraft_2 _ | simp)) ?_
          (first | refine gr_rd rfl rfl rfl (rd_and32 rfl rfl) ?_ | refine gr_rd rfl rfl rfl (rd_bits (by simp) rfl rfl rfl) ?_)
          refine gr_rd rfl rfl rfl (rd_move rfl) ?_
          refine gr_rd rfl rfl rfl (rd_indexA Tryd.underlying152 Tryd.sizeOf135 rfl rfl (by omega) (by omega)) ?_
          refine gr_rd rfl rfl rfl (rd_load1 Tryd.to135 rfl (by first | (apply Cells.own; (repeat (first | exact List.mem_cons_self | apply List.mem_cons_of_mem)); done) | assumption) (by first | rfl | assumption | exact encOp_37 _ _ | exact encOp_36 _ _ | exact encOp_35 _ _ | exact encOp_0 _ _ | exact encOp_1 _ _ | exact encOp_2 _ _ | exact encDraft_0 _ | exact encDraft_1 _ | exact encDraft_2 _ | simp)) ?_
          (first | refine gr_rd rfl rfl rfl (rd_and32 rfl rfl) ?_ | refine gr_rd rfl rfl rfl (rd_bits (by simp) rfl rfl rfl) ?_)
          (first | refine gr_rd rfl rfl rfl (rd_xor32 rfl rfl) ?_ | refine gr_rd rfl rfl rfl (rd_bits (by simp) rfl rfl rfl) ?_)
          refine gr_rd rfl rfl rfl (rd_indexA Tryd.underlying152 Tryd.sizeOf135 rfl rfl (by omega) (by omega)) ?_
          refine gr_rd rfl rfl rfl (rd_load1 Tryd.to135 rfl (by first | (apply Cells.own; (repeat (first | exact List.mem_cons_self | apply List.mem_cons_of_mem)); done) | assumption) (by first | rfl | assumption | exact encOp_37 _ _ | exact encOp_36 _ _ | exact encOp_35 _ _ | exact encOp_0 _ _ | exact encOp_1 _ _ | exact encOp_2 _ _ | exact encDraft_0 _ | exact encDraft_1 _ | exact encDraft_2 _ | simp)) ?_
          refine gr_rd rfl rfl rfl (rd_indexA Tryd.underlying152 Tryd.sizeOf135 rfl rfl (by omega) (by omega)) ?_
          refine gr_rd rfl rfl rfl (rd_load1 Tryd.to135 rfl (by first | (apply Cells.own; (repeat (first | exact List.mem_cons_self | apply List.mem_cons_of_mem)); done) | assumption) (by first | rfl | assumption | exact encOp_37 _ _ | exact encOp_36 _ _ | exact encOp_35 _ _ | exact encOp_0 _ _ | exact encOp_1 _ _ | exact encOp_2 _ _ | exact encDraft_0 _ | exact encDraft_1 _ | exact encDraft_2 _ | simp)) ?_
          (first | refine gr_rd rfl rfl rfl (rd_and32 rfl rfl) ?_ | refine gr_rd rfl rfl rfl (rd_bits (by simp) rfl rfl rfl) ?_)
          (first | refine gr_rd rfl rfl rfl (rd_xor32 rfl rfl) ?_ | refine gr_rd rfl rfl rfl (rd_bits (by simp) rfl rfl rfl) ?_)
          refine gr_nx rfl rfl rfl (nx_call Tryd.en129 rfl (rot_cc _ _ _ 2 (-2) rfl (by decide) (by decide))) ?_; rintro v134 H' L' hle ⟨rfl, rfl, rfl⟩; refine ⟨⟨(by first | exact Gh.le_refl _ | assumption | exact Gh.le_trans (by assumption) (by assumption)), (by repeat (first | exact List.Sublist.refl _ | exact List.nil_sublist _ | apply List.Sublist.cons_cons | apply List.Sublist.cons | apply List.Sublist.append (List.Sublist.refl _) | refine List.Sublist.trans ?_ (List.sublist_append_right _ _)))⟩, ?_⟩
          refine gr_nx rfl rfl rfl (nx_call Tryd.en129 rfl (rot_cc _ _ _ 13 (-13) rfl (by decide) (by decide))) ?_; rintro v136 H' L' hle ⟨rfl, rfl, rfl⟩; refine ⟨⟨(by first | exact Gh.le_refl _ | assumption | exact Gh.le_trans (by assumption) (by assumption)), (by repeat (first | exact List.Sublist.refl _ | exact List.nil_sublist _ | apply List.Sublist.cons_cons | apply List.Sublist.cons | apply List.Sublist.append (List.Sublist.refl _) | refine List.Sublist.trans ?_ (List.sublist_append_right _ _)))⟩, ?_⟩
          (first | refine gr_rd rfl rfl rfl (rd_xor32 rfl rfl) ?_ | refine gr_rd rfl rfl rfl (rd_bits (by simp) rfl rfl rfl) ?_)
          refine gr_nx rfl rfl rfl (nx_call Tryd.en129 rfl (rot_cc _ _ _ 22 (-22) rfl (by decide) (by decide))) ?_; rintro v139 H' L' hle ⟨rfl, rfl, rfl⟩; refine ⟨⟨(by first | exact Gh.le_refl _ | assumption | exact Gh.le_trans (by assumption) (by assumption)), (by repeat (first | exact List.Sublist.refl _ | exact List.nil_sublist _ | apply List.Sublist.cons_cons | apply List.Sublist.cons | apply List.Sublist.append (List.Sublist.refl _) | refine List.Sublist.trans ?_ (List.sublist_append_right _ _)))⟩, ?_⟩
          (first | refine gr_rd rfl rfl rfl (rd_xor32 rfl rfl) ?_ | refine gr_rd rfl rfl rfl (rd_bits (by simp) rfl rfl rfl) ?_)
          (first | refine gr_rd rfl rfl rfl (rd_add32 rfl rfl) ?_ | refine gr_rd rfl rfl rfl (rd_add rfl rfl rfl) ?_)
          refine gr_rd rfl rfl rfl (rd_assign rfl) ?_
          refine gr_nil ?_
          refine gk_then ?_
          refine gc_seqr [(.mv, 0), (.mv, 1), (.mv, 2), (.mv, 3), (.mv, 4), (.mv, 5), (.mv, 6), (.mv, 7), (.mv, 8), (.mv, 9), (.mv, 10), (.mv, 11), (.mv, 12), (.mv, 13), (.mv, 14), (.mv, 15), (.mv, 16), (.mv, 17), (.nm, 18)] rfl ?_
          refine gr_rd rfl rfl rfl (rd_move rfl) ?_
          refine gr_rd rfl rfl rfl (rd_move rfl) ?_
          (first | refine gr_rd rfl rfl rfl (rd_add32 rfl rfl) ?_ | refine gr_rd rfl rfl rfl (rd_add rfl rfl rfl) ?_)
          refine gr_rd rfl rfl rfl (rd_move rfl) ?_
          refine gr_rd rfl rfl rfl (rd_indexA Tryd.underlying152 Tryd.sizeOf135 rfl rfl (by omega) (by omega)) ?_
          refine gr_rd rfl rfl rfl (rd_load1 Tryd.to135 rfl (by first | (apply Cells.own; (repeat (first | exact List.mem_cons_self | apply List.mem_cons_of_mem)); done) | assumption) (by first | rfl | assumption | exact encOp_37 _ _ | exact encOp_36 _ _ | exact encOp_35 _ _ | exact encOp_0 _ _ | exact encOp_1 _ _ | exact encOp_2 _ _ | exact encDraft_0 _ | exact encDraft_1 _ | exact encDraft_2 _ | simp)) ?_
          refine gr_rd rfl rfl rfl (rd_indexA Tryd.underlying152 Tryd.sizeOf135 rfl rfl (by omega) (by omega)) ?_
          refine gr_rd rfl rfl rfl (rd_load1 Tryd.to135 rfl (by first | (apply Cells.own; (repeat (first | exact List.mem_cons_self | apply List.mem_cons_of_mem)); done) | assumption) (by first | rfl | assumption | exact encOp_37 _ _ | exact encOp_36 _ _ | exact encOp_35 _ _ | exact encOp_0 _ _ | exact encOp_1 _ _ | exact encOp_2 _ _ | exact encDraft_0 _ | exact encDraft_1 _ | exact encDraft_2 _ | simp)) ?_
          refine gr_rd rfl rfl rfl (rd_indexA Tryd.underlying152 Tryd.sizeOf135 rfl rfl (by omega) (by omega)) ?_
          refine gr_rd rfl rfl rfl (rd_load1 Tryd.to135 rfl (by first | (apply Cells.own; (repeat (first | exact List.mem_cons_self | apply List.mem_cons_of_mem)); done) | assumption) (by first | rfl | assumption | exact encOp_37 _ _ | exact encOp_36 _ _ | exact encOp_35 _ _ | exact encOp_0 _ _ | exact encOp_1 _ _ | exact encOp_2 _ _ | exact encDraft_0 _ | exact encDraft_1 _ | exact encDraft_2 _ | simp)) ?_
          refine gr_rd rfl rfl rfl (rd_move rfl) ?_
          (first | refine gr_rd rfl rfl rfl (rd_add32 rfl rfl) ?_ | refine gr_rd rfl rfl rfl (rd_add rfl rfl rfl) ?_)
          refine gr_rd rfl rfl rfl (rd_move rfl) ?_
          refine gr_rd rfl rfl rfl (rd_indexA Tryd.underlying152 Tryd.sizeOf135 rfl rfl (by omega) (by omega)) ?_
          refine gr_rd rfl rfl rfl (rd_load1 Tryd.to135 rfl (by first | (apply Cells.own; (repeat (first | exact List.mem_cons_self | apply List.mem_cons_of_mem)); done) | assumption) (by first | rfl | assumption | exact encOp_37 _ _ | exact encOp_36 _ _ | exact encOp_35 _ _ | exact encOp_0 _ _ | exact encOp_1 _ _ | exact encOp_2 _ _ | exact encDraft_0 _ | exact encDraft_1 _ | exact encDraft_2 _ | simp)) ?_
          refine gr_rd rfl rfl rfl (rd_indexA Tryd.underlying152 Tryd.sizeOf135 rfl rfl (by omega) (by omega)) ?_
          refine gr_rd rfl rfl rfl (rd_load1 Tryd.to135 rfl (by first | (apply Cells.own; (repeat (first | exact List.mem_cons_self | apply List.mem_cons_of_mem)); done) | assumption) (by first | rfl | assumption | exact encOp_37 _ _ | exact encOp_36 _ _ | exact encOp_35 _ _ | exact encOp_0 _ _ | exact encOp_1 _ _ | exact encOp_2 _ _ | exact encDraft_0 _ | exact encDraft_1 _ | exact encDraft_2 _ | simp)) ?_
          refine gr_rd rfl rfl rfl (rd_build (buildT_array Tryd.underlying152 Tryd.zeroValue152 rfl Tryd.sizeOf135) rfl (fill_flat 1 [_, _, _, _, _, _, _, _] 0 [] _ rfl rfl (by simp [Value.cells]))) ?_
          refine gr_nx0 rfl rfl (nx_store Tryd.sizeOf152 rfl rfl rfl rfl Upd.here (by simp [Value.cells]) (oneCells_of_all rfl)) ?_; rintro _ _ _ _ ⟨rfl, rfl, rfl⟩; refine ⟨trivial, ?_⟩
          refine gr_nil ?_
          refine gk_inBlock ?_
          refine gk_then ?_
          refine gc_seqr [(.mv, 0), (.mv, 1)] rfl ?_
          (first | refine gr_rd rfl rfl rfl (rd_add rfl rfl (IntWalk.i64_in _ (by omega))) ?_ | refine gr_rd rfl rfl rfl (rd_add rfl rfl rfl) ?_)
          refine gr_rd rfl rfl rfl (rd_move rfl) ?_
          refine gr_nil ?_
          refine gk_round (k + 1) (by omega) ⟨rfl, ?_, by omega⟩ (by repeat (first | exact Subs.nil | refine Subs.cons rfl ?_))
          rw [roundsTo, hr]
          rfl
        · have hk2 : k = 64 := by simp at hc2; omega
          subst hk2
          have hSl : h.length = (roundsTo h W 64).length := by rw [roundsTo_length h W hh, hh]
          have hmix : mixH h p = List.zipWith (· + ·) h (roundsTo h W 64) := by rw [mixH, hW]
          generalize hS : roundsTo h W 64 = S at hSl hmix ⊢
          refine gc_exit ?_
          refine gk_exit_then ?_
          refine gk_exit_then ?_
          refine gk_here ?_
          refine gk_then ?_
          refine gc_seq ?_
          refine gc_seqr [(.mv, 0)] rfl ?_
          refine gr_rd rfl rfl rfl (rd_move rfl) ?_
          refine gr_nil ?_
          refine gk_then ?_
          refine gc_block ?_
          refine gc_loop (fun k : Nat => [(0, pt b 0), (8, pt b8 0), (176, i64 k)]) (fun k H1 L1 => H = H1 ∧ (b8, .cells (S.map w32).toArray 152 (0, 0)) :: (b4, .cells (W.map w32).toArray 167 (0, 0)) :: (b, .cells ((addTo h S k).map w32).toArray T (0, 0)) :: L = L1 ∧ k ≤ 8) (fun k => 8 - k) (0) ?_ (by repeat (first | exact Subs.nil | refine Subs.cons rfl ?_)) ?_
          · exact ⟨rfl, rfl, Nat.zero_le _⟩
          · rintro k H1 L1 ⟨rfl, rfl, hk⟩
            refine gc_seq ?_
            refine gc_seqr [(.mv, 0)] rfl ?_
            refine gr_rd rfl rfl rfl (rd_lss rfl rfl) ?_
            refine gr_nil ?_
            refine gk_then ?_
            refine gc_seq ?_
            refine gc_cond rfl (fun hc3 => ?_) (fun hc3 => ?_)
            · have hk8 : k < 8 := by simp at hc3; omega
              refine gc_skip ?_
              refine gk_then ?_
              refine gc_seq ?_
              refine gc_block ?_
              refine gc_seq ?_
              refine gc_seqr [(.mv, 0), (.mv, 1)] rfl ?_
              refine gr_rd rfl rfl rfl (rd_move rfl) ?_
              refine gr_rd rfl rfl rfl (rd_assign rfl) ?_
              refine gr_nil ?_
              refine gk_then ?_
              refine gc_draw Tryd.mixed [(.mv, 0), (.mv, 1), (.mv, 2), (.mv, 3), (.mv, 4), (.mv, 5), (.mv, 6), (.mv, 7), (.mv, 8), (.mv, 9), (.mv, 10), (.fin, 11)] (by decide +kernel) _ (List.Sublist.refl _) ?_
              refine gr_rd rfl rfl rfl (rd_move rfl) ?_
              refine gr_rd rfl rfl rfl (rd_move rfl) ?_
              refine gr_rd rfl rfl rfl (rd_nilCheck rfl) ?_
              refine gr_rd rfl rfl rfl (rd_indexA Tryd.underlying152 Tryd.sizeOf135 rfl rfl (by omega) (by omega)) ?_
              refine gr_rd rfl rfl rfl (rd_load1 Tryd.to135 rfl ⟨_, _, .inr (List.mem_cons_of_mem _ (List.mem_cons_of_mem _ List.mem_cons_self))⟩ (w32_at2 (addTo h S k) (j := k) (by rw [addTo_length hSl]; omega) rfl)) ?_
              refine gr_rd rfl rfl rfl (rd_move rfl) ?_
              refine gr_rd rfl rfl rfl (rd_indexA Tryd.underlying152 Tryd.sizeOf135 rfl rfl (by omega) (by omega)) ?_
              refine gr_rd rfl rfl rfl (rd_load1 Tryd.to135 rfl ⟨_, _, .inr List.mem_cons_self⟩ (w32_at2 S (j := k) (by omega) rfl)) ?_
              (first | refine gr_rd rfl rfl rfl (rd_add32 rfl rfl) ?_ | refine gr_rd rfl rfl rfl (rd_add rfl rfl rfl) ?_)
              refine gr_rd rfl rfl rfl (rd_nilCheck rfl) ?_
              refine gr_rd rfl rfl rfl (rd_indexA Tryd.underlying152 Tryd.sizeOf135 rfl rfl (by omega) (by omega)) ?_
              refine gr_fin0 rfl rfl (nx_store (vs := [_]) Tryd.sizeOf135 rfl rfl rfl rfl (Upd.there (Upd.there Upd.here)) (by simp [addTo_length hSl]; omega) (oneCells_of_all rfl)) ?_; rintro _ _ _ _ ⟨rfl, rfl, rfl⟩
              refine gr_nil ?_
              refine gk_inBlock ?_
              refine gk_then ?_
              refine gc_seqr [(.mv, 0), (.mv, 1)] rfl ?_
              (first | refine gr_rd rfl rfl rfl (rd_add rfl rfl (IntWalk.i64_in _ (by omega))) ?_ | refine gr_rd rfl rfl rfl (rd_add rfl rfl rfl) ?_)
              refine gr_rd rfl rfl rfl (rd_move rfl) ?_
              refine gr_nil ?_
              refine gk_round (k + 1) (by omega) ⟨rfl, ?_, by omega⟩ (by repeat (first | exact Subs.nil | refine Subs.cons rfl ?_))
              rw [addTo_at hSl (by omega), addTo_next hSl (by omega)]
            · have hk2 : k = 8 := by simp at hc3; omega
              subst hk2
              have hall : addTo h S 8 = mixH h p := by rw [hmix, ← hh]; exact addTo_all hSl
              rw [hall]
              refine gc_exit ?_
              refine gk_exit_then ?_
              refine gk_exit_then ?_
              refine gk_here ?_
              refine gk_result (L' := (b, .cells ((mixH h p).map w32).toArray T (0, 0)) :: L) (.inr rfl) _ (res0 rfl) (by repeat (first | exact List.Sublist.refl _ | apply List.Sublist.cons_cons | apply List.Sublist.cons | apply List.Sublist.append (List.Sublist.refl _) | refine List.Sublist.trans ?_ (List.sublist_append_right _ _))) (by first | exact Gh.le_refl _ | assumption | exact Gh.le_trans (by assumption) (by assumption)) ?_
              exact ⟨rfl, rfl⟩
end Go.Proofs.YtfhldfjknagidaaDoor
