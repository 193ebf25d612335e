/-
  Walks: comparing names.
-/
import Derived.Laws.Externs
import Derived.Lib.BytesEntry
import Derived.Test.YtfhldfjknagidaaDoorLineDepthsM1
set_option linter.unusedSimpArgs false
set_option linter.unusedVariables false
set_option linter.unnecessarySimpa false
set_option linter.all false
namespace Go.Proofs.YtfhldfjknagidaaDoor
open Go.VK Go.Tr
set_option maxRecDepth 20000
theorem ne_of_len {a b : List Nm} (h : ((a.length : Int) != (b.length : Int)) = true) : decide (a = b) = false := by
  have : a ≠ b := fun e => by subst e; simp at h
  simp [this]
theorem ne_of_at {a b : List Nm} {k : Nat} {x y : Nm} (ha : a[k]? = some x) (hb : b[k]? = some y) (h : (x.bytes != y.bytes) = true) : decide (a = b) = false := by
  have : a ≠ b := fun e => by subst e; rw [ha] at hb; cases hb; simp at h
  simp [this]
theorem eq_of_all {a b : List Nm} {k : Nat} (hl : a.length = b.length) (hk : ¬ k < a.length) (h : ∀ j, j < k → a[j]? = b[j]?) : decide (a = b) = true := by
  have : a = b := by
    apply List.ext_getElem?; intro j
    by_cases hj : j < k
    · exact h j hj
    · rw [List.getElem?_eq_none (by omega), List.getElem?_eq_none (by omega)]
  simp [this]

theorem ids_cc (H : Gh) (L : Chunks) (va vb : Value) (a b : List Nm) (ha : Ids H L va a) (hb : Ids H L vb b) :
    CC Tryd.prog 25 #[va, vb] H L (fun v H' L' => v = .bool (decide (a = b)) ∧ H = H' ∧ L = L') := by
 obtain ⟨A, ba, oa, ca, la, rfl, hca, hna, ha0, ha1, ha2⟩ := ha
 obtain ⟨B, bb, ob, cb, lb, rfl, hcb, hnb, hb0, hb1, hb2⟩ := hb
 refine cc_of Tryd.func25 rfl (Nat.le_of_ble_eq_true rfl) ?_
 simp only [Tryd.ntmps25]
 refine gc_seq (gc_seqr [(.mv, 0)] rfl ?_)
 refine ga rfl rfl rfl rfl ?_
 refine gr_nil (gk_then ?_)
 refine gc_seq ?_
 refine gc_seq (gc_seqr [(.mv, 0), (.mv, 1), (.mv, 2), (.mv, 3), (.mv, 4)] rfl ?_)
 refine gm rfl rfl rfl rfl ?_
 refine gr_rd rfl rfl rfl (rd_lenS Tryd.underlying29 rfl) ?_
 refine gm rfl rfl rfl rfl ?_
 refine gr_rd rfl rfl rfl (rd_lenS Tryd.underlying29 rfl) ?_
 refine gr_rd rfl rfl rfl (rd_neq rfl rfl) ?_
 refine gr_nil (gk_then ?_)
 refine gc_cond rfl (fun hc0 => ?_) (fun hc0 => ?_)
 ·skip
  refine gc_seq (gc_seqr [(.mv, 0)] rfl ?_)
  refine ga rfl rfl rfl rfl ?_
  refine gr_nil (gk_then ?_)
  refine gc_ret ?_
  refine gk_ret_then ?_
  refine gk_result (L' := L) (.inl rfl) _ (res1 rfl rfl) sbl gle ?_
  exact ⟨by rw [ne_of_len hc0], rfl, rfl⟩
 ·have hl : a.length = b.length := by simp at hc0; omega
  refine gc_skip ?_
  refine gk_then ?_
  refine gc_seq ?_
  refine gc_seq (gc_seqr [(.mv, 0), (.mv, 1), (.mv, 2)] rfl ?_)
  refine gm rfl rfl rfl rfl ?_
  refine gr_rd rfl rfl rfl (rd_lenS Tryd.underlying29 rfl) ?_
  refine gm rfl rfl rfl rfl ?_
  refine gr_nil (gk_then ?_)
  refine gc_block ?_
  refine gc_loop (fun k : Nat => [(0, .slice A a.length ca), (1, .slice B b.length cb), (12, .int .i64 a.length), (13, .int .i64 k)]) (fun k H1 L1 => H = H1 ∧ L = L1 ∧ k ≤ a.length ∧ ∀ j, j < k → a[j]? = b[j]?) (fun k => a.length - k) (0) ?_ sbs ?_
  ·exact ⟨rfl, rfl, Nat.zero_le _, fun j hj => absurd hj (Nat.not_lt_zero _)⟩
  ·rintro k H1 L1 ⟨rfl, rfl, hk, hj⟩
   refine gc_seq (gc_seqr [(.mv, 0)] rfl ?_)
   refine gr_rd rfl rfl rfl (rd_lss rfl rfl) ?_
   refine gr_nil (gk_then ?_)
   refine gc_seq ?_
   refine gc_cond rfl (fun hc1 => ?_) (fun hc1 => ?_)
   ·have hlt : k < a.length := by simpa using hc1
    have hxa : a[k]? = some a[k] := List.getElem?_eq_getElem hlt
    have hxb : b[k]? = some b[k] := List.getElem?_eq_getElem (by omega)
    have hA : A = some ⟨ba, oa, none⟩ := (ha1 (List.ne_nil_of_length_pos (by omega))).1
    have hCa := (ha1 (List.ne_nil_of_length_pos (by omega))).2
    have hB : B = some ⟨bb, ob, none⟩ := (hb1 (List.ne_nil_of_length_pos (by omega))).1
    have hCb := (hb1 (List.ne_nil_of_length_pos (by omega))).2
    have hsa := ha2 k _ hxa
    have hsb := hb2 k _ hxb
    refine gc_skip ?_
    refine gk_then ?_
    refine gc_seq ?_
    refine gc_block ?_
    refine gc_seq (gc_seqr [(.mv, 0), (.mv, 1)] rfl ?_)
    refine gm rfl rfl rfl rfl ?_
    refine ga rfl rfl rfl rfl ?_
    refine gr_nil (gk_then ?_)
    refine gc_seq ?_
    refine gc_draw Tryd.mixed [(.mv, 0), (.mv, 1), (.mv, 2), (.mv, 3), (.mv, 4), (.mv, 5), (.mv, 6), (.mv, 7), (.mv, 8)] (by decide +kernel) _ (List.Sublist.refl _) ?_
    refine gm rfl rfl rfl rfl ?_
    refine gm rfl rfl rfl rfl ?_
    refine gr_rd rfl rfl rfl (rd_indexS Tryd.underlying29 Tryd.sizeOf34 rfl rfl (by first | rfl | assumption) (by omega) (by omega)) ?_
    refine gr_rd rfl rfl rfl (rd_loadA Tryd.ta34 rfl cel (by first | exact Seg.all _ | exact Seg.head | (first | exact hsa | exact hsb)) lnk) ?_
    refine gm rfl rfl rfl rfl ?_
    refine gm rfl rfl rfl rfl ?_
    refine gr_rd rfl rfl rfl (rd_indexS Tryd.underlying29 Tryd.sizeOf34 rfl rfl (by first | rfl | assumption) (by omega) (by omega)) ?_
    refine gr_rd rfl rfl rfl (rd_loadA Tryd.ta34 rfl cel (by first | exact Seg.all _ | exact Seg.head | (first | exact hsa | exact hsb)) lnk) ?_
    refine gr_rd rfl rfl rfl (rd_arrNe Tryd.tb34 (by first | exact Nm.len _ | assumption | simp) (by first | exact Nm.len _ | assumption | simp) rfl rfl) ?_
    refine gr_nil (gk_then ?_)
    refine gc_cond rfl (fun hc2 => ?_) (fun hc2 => ?_)
    ·skip
     refine gc_seq (gc_seqr [(.mv, 0)] rfl ?_)
     refine ga rfl rfl rfl rfl ?_
     refine gr_nil (gk_then ?_)
     refine gc_ret ?_
     refine gk_ret_inBlock ?_
     refine gk_ret_then ?_
     refine gk_ret_then ?_
     refine gk_ret_inBlock ?_
     refine gk_ret_then ?_
     refine gk_result (L' := L) (.inl rfl) _ (res1 rfl rfl) sbl gle ?_
     exact ⟨by rw [ne_of_at hxa hxb hc2], rfl, rfl⟩
    ·skip
     refine gc_skip ?_
     refine gk_inBlock ?_
     refine gk_then ?_
     refine gc_seqr [(.mv, 0), (.mv, 1)] rfl ?_
     (first | refine gr_rd rfl rfl rfl (rd_add rfl rfl (IntWalk.i64_in _ (by omega))) ?_ | refine gr_rd rfl rfl rfl (rd_add rfl rfl rfl) ?_)
     refine gm rfl rfl rfl rfl ?_
     refine gr_nil ?_
     refine gk_round (k + 1) (by omega) ⟨rfl, rfl, by omega, fun j hj2 => ?_⟩ sbs
     by_cases e : j = k
     · subst e; rw [hxa, hxb]; congr 1; exact Nm.ext' (by simpa using hc2)
     · exact hj j (by omega)
   ·skip
    refine gc_exit ?_
    refine gk_exit_then ?_
    refine gk_exit_then ?_
    refine gk_here ?_
    refine gk_then ?_
    refine gc_seq (gc_seqr [(.mv, 0)] rfl ?_)
    refine ga rfl rfl rfl rfl ?_
    refine gr_nil (gk_then ?_)
    refine gc_ret ?_
    refine gk_result (L' := L) (.inl rfl) _ (res1 rfl rfl) sbl gle ?_
    exact ⟨by rw [eq_of_all hl (by simp at hc1; omega) hj], rfl, rfl⟩
end Go.Proofs.YtfhldfjknagidaaDoor

/-
  Walks: numbers, texts and lists as bytes.
-/
set_option linter.unusedSimpArgs false
set_option linter.unusedVariables false
set_option linter.unnecessarySimpa false
set_option linter.all false
namespace Go.Proofs.YtfhldfjknagidaaDoor
open Go.VK Go.Tr
set_option maxRecDepth 20000
theorem src_one {P : Program} {H : Gh} {L : Chunks} {k m cap b : Nat} {T : TypeId} {z : Nat × Nat} {l : List Value} (hn : l.length = m * k) (h1 : oneCells l) (hm : (b, Obj.cells l.toArray T z) ∈ L) :
    Src P H L k (.slice (some ⟨b, 0, none⟩) m cap) m l := src_slice (b := b) (o := 0) (l := l) hn h1 (fun h => by cases h) (fun _ _ => ⟨rfl, ⟨T, z, .inr hm⟩, Seg.all _⟩)
theorem digits_step {k x : Nat} (hx : 0 < x) (hk : 0 < k) : digits k x = digits (k - 1) (x / 256) ++ [UInt8.ofNat x] := by
  obtain ⟨j, rfl⟩ : ∃ j, k = j + 1 := ⟨k - 1, by omega⟩
  simp [digits, Nat.ne_of_gt hx]
theorem digits_zero (k : Nat) : digits k 0 = [] := by cases k <;> simp [digits]
theorem u8_of (x : Nat) : IntKind.u8.wrap (x : Int) = ((UInt8.ofNat x).toNat : Int) := by
  rw [IntKind.wrap_u8]; simp
theorem shr8 (x : Nat) : Int.fdiv (x : Int) (2 ^ min (Int.toNat 8) IntKind.i64.bits) = ((x / 256 : Nat) : Int) := by
  have : (2 : Int) ^ min (Int.toNat 8) IntKind.i64.bits = 256 := by decide
  rw [this, Int.fdiv_eq_ediv_of_nonneg _ (by omega)]; omega
theorem pow_step {x k : Nat} (hx : 0 < x) (hlt : x < 256 ^ k) : 0 < k ∧ x / 256 < 256 ^ (k - 1) := by
  cases k with
  | zero => simp at hlt; omega
  | succ k => exact ⟨by omega, by rw [Nat.add_sub_cancel]; rw [Nat.pow_succ] at hlt; omega⟩
theorem map_u8 (l : List UInt8) (j : Nat) (h : j < l.length) : (l.map u8v)[j]? = some (u8v l[j]) := by simp [h]
theorem take_back (bs : List UInt8) (j : Nat) (h1 : 1 ≤ j) (h2 : j ≤ bs.length) : bs.reverse.take (bs.length - (j - 1)) = bs.reverse.take (bs.length - j) ++ [bs[j - 1]'(by omega)] := by
  rw [show bs.length - (j - 1) = (bs.length - j) + 1 by omega, List.take_add_one]
  congr 1
  rw [List.getElem?_eq_getElem (by simp; omega)]
  simp only [Option.toList_some, List.getElem_reverse]
  congr 2
  omega
theorem sl_at {α : Type} {enc : α → List Value} {k b off : Nat} {H : Gh} {L : Chunks} {xs : List α} {l : List Value} {a : Option Addr} (h1 : xs ≠ [] → a = some ⟨b, off, none⟩ ∧ Cells H L b l) (h2 : ∀ j x, xs[j]? = some x → Seg l (off + j * k) (enc x)) {j : Nat} (hj : j < xs.length) :
    a = some ⟨b, off, none⟩ ∧ Cells H L b l ∧ Seg l (off + j * k) (enc xs[j]) :=
  ⟨(h1 (List.ne_nil_of_length_pos (by omega))).1, (h1 (List.ne_nil_of_length_pos (by omega))).2, h2 j _ (List.getElem?_eq_getElem hj)⟩
theorem digits_len : ∀ (k n : Nat), (digits k n).length ≤ k
  | 0, _ => Nat.le_refl _
  | k + 1, n => by
    unfold digits
    split
    · simp
    · have := digits_len k (n / 256); simp; omega
theorem numB_len (n : Nat) : (numB n).length ≤ 10 := by have := digits_len 9 n; simp [numB]; omega
theorem flat_take (ls : List Bs) (k : Nat) (hk : k < ls.length) : (ls.take (k + 1)).flatMap textB = (ls.take k).flatMap textB ++ (numB ls[k].length ++ ls[k]) := by
  rw [List.take_add_one, List.getElem?_eq_getElem hk]
  simp only [Option.toList_some, List.flatMap_append, List.flatMap_cons, List.flatMap_nil, List.append_nil, textB]
theorem flat_le (ls : List Bs) (k : Nat) : ((ls.take k).flatMap textB).length ≤ (ls.flatMap textB).length := by
  have := congrArg (fun l => (l.flatMap textB).length) (List.take_append_drop k ls)
  simp only [List.flatMap_append, List.length_append] at this
  omega
theorem seg_one {l : List Value} {o : Nat} {v : Value} (h : Seg l o [v]) : l[o]? = some v := by simpa using h 0 v rfl

theorem num_cc (H : Gh) (L : Chunks) (n : Int) (hn : n < 9223372036854775808) :
    CC Tryd.prog 93 #[i64 n] H L (fun v H' L' => v = str (numB n.toNat) ∧ H = H' ∧ L = L') := by
 refine cc_of Tryd.func93 rfl (Nat.le_of_ble_eq_true rfl) ?_
 simp only [Tryd.ntmps93]
 refine gc_seq (gc_seqr [(.mv, 0)] rfl ?_)
 refine ga rfl rfl rfl rfl ?_
 refine gr_nil (gk_then ?_)
 refine gc_seq (gc_seqr [(.mv, 0)] rfl ?_)
 refine ga rfl rfl rfl rfl ?_
 refine gr_nil (gk_then ?_)
 refine gc_seq ?_
 refine gc_seq (gc_seqr [(.mv, 0), (.mv, 1), (.mv, 2)] rfl ?_)
 refine gm rfl rfl rfl rfl ?_
 refine gr_rd rfl rfl rfl (rd_max2 rfl rfl (r := (n.toNat : Int)) (by split <;> omega)) ?_
 refine ga rfl rfl rfl rfl ?_
 refine gr_nil (gk_then ?_)
 refine gc_block ?_
 refine gc_loop (fun s : Nat × Bs × Value × Chunks => [(3, s.2.2.1), (4, i64 s.1)]) (fun s H1 L1 => H = H1 ∧ L1 = s.2.2.2 ++ L ∧ Ow 5 1 s.2.2.2 s.2.2.1 s.2.1.length (s.2.1.map u8v) ∧ digits 9 n.toNat = digits (9 - s.2.1.length) s.1 ++ s.2.1.reverse ∧ s.2.1.length ≤ 9 ∧ s.1 < 256 ^ (9 - s.2.1.length) ∧ s.1 < 9223372036854775808) (fun s => s.1) ((n.toNat, [], .slice none 0 0, [])) ?_ sbs ?_
 ·exact ⟨rfl, rfl, Ow.nil, by simp, by simp, by simp; omega, by omega⟩
 ·rintro ⟨x, bs, vb, C⟩ H1 L1 ⟨rfl, rfl, hO, hd, hl, hx, hx2⟩
  simp only at hO hd hl hx hx2
  show GC _ _ _ _ [(3, vb), (4, i64 x)] H (C ++ L)
  refine gc_seq ?_
  refine gc_seq (gc_seqr [(.mv, 0), (.mv, 1)] rfl ?_)
  refine gm rfl rfl rfl rfl ?_
  refine gr_rd rfl rfl rfl (rd_gtr rfl rfl) ?_
  refine gr_nil (gk_then ?_)
  refine gc_cond rfl (fun hc0 => ?_) (fun hc0 => ?_)
  ·have hx1 : 0 < x := by simpa using hc0
   refine gc_skip ?_
   refine gk_then ?_
   refine gc_seq ?_
   refine gc_block ?_
   refine gc_seqr [(.mv, 0), (.mv, 1), (.mv, 2), (.nm, 3), (.nm, 4), (.mv, 5)] rfl ?_
   refine gm rfl rfl rfl rfl ?_
   refine gm rfl rfl rfl rfl ?_
   refine gr_rd rfl rfl rfl (rd_convInt Tryd.underlying3 Tryd.underlying5 rfl (u8_of x)) ?_
   refine gr_nx rfl rfl rfl (nx_slice1 (vs := [_]) Tryd.underlying117 Tryd.sizeOf5 Tryd.zeroValue5 rfl rfl rfl (by first | exact oneCells_of_all rfl | assumption) rfl rfl) ?_; rintro _ _ _ _ ⟨b16, rfl, rfl, rfl⟩; refine ⟨trivial, ?_⟩
   refine gr_nx rfl rfl rfl (nx_append Tryd.app117_117 rfl rfl hO pik (src_one rfl (oneCells_of_all rfl) List.mem_cons_self) (by omega) (by omega)) ?_; rintro v17 H' L' hle ⟨C1, hO1, _, rfl, rfl⟩; refine ⟨trivial, ?_⟩
   refine ga rfl rfl rfl rfl ?_
   refine gr_nil ?_
   refine gk_inBlock ?_
   refine gk_then ?_
   refine gc_seqr [(.mv, 0), (.mv, 1), (.mv, 2)] rfl ?_
   refine gm rfl rfl rfl rfl ?_
   refine gr_rd rfl rfl rfl (rd_shr rfl rfl (by omega) (shr8 x)) ?_
   refine ga rfl rfl rfl rfl ?_
   refine gr_nil ?_
   refine gk_drop (L' := C1 ++ L) sbl ?_
   refine gk_round (x / 256, bs ++ [UInt8.ofNat x], _, C1) ?_ ?_ sbs
   · show x / 256 < x
     omega
   · have h := pow_step (x := x) (by omega) hx
     refine ⟨rfl, rfl, by simpa [u8v] using hO1, ?_, by simp; omega, ?_, by simp only; omega⟩
     · rw [hd, digits_step (by omega) h.1]; simp [Nat.sub_sub]
     · simpa [Nat.sub_sub] using h.2
  ·have hx0 : x = 0 := by simpa using hc0
   subst hx0
   rw [digits_zero, List.nil_append] at hd
   obtain ⟨a0, cap0, rfl, hcap0⟩ := hO.slice
   refine gc_exit ?_
   refine gk_exit_then ?_
   refine gk_exit_then ?_
   refine gk_here ?_
   refine gk_then ?_
   refine gc_seq (gc_seqr [(.mv, 0), (.mv, 1), (.mv, 2), (.nm, 3), (.mv, 4)] rfl ?_)
   refine gm rfl rfl rfl rfl ?_
   refine gr_rd rfl rfl rfl (rd_lenS Tryd.underlying117 rfl) ?_
   refine gr_rd rfl rfl rfl (rd_convInt Tryd.underlying3 Tryd.underlying5 rfl (u8_of bs.length)) ?_
   refine gr_nx rfl rfl rfl (nx_slice1 (vs := [_]) Tryd.underlying117 Tryd.sizeOf5 Tryd.zeroValue5 rfl rfl rfl (by first | exact oneCells_of_all rfl | assumption) rfl rfl) ?_; rintro _ _ _ _ ⟨b21, rfl, rfl, rfl⟩; refine ⟨trivial, ?_⟩
   refine ga rfl rfl rfl rfl ?_
   refine gr_nil (gk_then ?_)
   refine gc_seq ?_
   refine gc_seq (gc_seqr [(.mv, 0), (.mv, 1), (.mv, 2), (.mv, 3)] rfl ?_)
   refine gm rfl rfl rfl rfl ?_
   refine gr_rd rfl rfl rfl (rd_lenS Tryd.underlying117 rfl) ?_
   (first | refine gr_rd rfl rfl rfl (rd_sub rfl rfl (IntWalk.i64_in _ (by omega))) ?_ | refine gr_rd rfl rfl rfl (rd_sub rfl rfl rfl) ?_)
   refine ga rfl rfl rfl rfl ?_
   refine gr_nil (gk_then ?_)
   refine gc_block ?_
   refine gc_loop (fun s : Nat × Value × Chunks => [(3, .slice a0 bs.length cap0), (5, s.2.1), (6, i64 ((s.1 : Int) - 1))]) (fun s H1 L1 => H = H1 ∧ L1 = s.2.2 ++ (C ++ L) ∧ s.1 ≤ bs.length ∧ Ow 5 1 s.2.2 s.2.1 (bs.length - s.1 + 1) ((UInt8.ofNat bs.length :: bs.reverse.take (bs.length - s.1)).map u8v)) (fun s => s.1) ((bs.length, .slice (some ⟨b21, 0, none⟩) 1 1, [(b21, .cells [u8v (UInt8.ofNat bs.length)].toArray 5 (0, 0))])) ?_ sbs ?_
   ·exact ⟨rfl, rfl, Nat.le_refl _, by simpa using Ow.new rfl⟩
   ·rintro ⟨j, vo, Co⟩ H1 L1 ⟨rfl, rfl, hj, hOo⟩
    simp only at hj hOo
    show GC _ _ _ _ [(3, .slice a0 bs.length cap0), (5, vo), (6, i64 ((j : Int) - 1))] H (Co ++ (C ++ L))
    refine gc_seq ?_
    refine gc_seq (gc_seqr [(.mv, 0), (.mv, 1)] rfl ?_)
    refine gm rfl rfl rfl rfl ?_
    refine gr_rd rfl rfl rfl (rd_geq rfl rfl) ?_
    refine gr_nil (gk_then ?_)
    refine gc_cond rfl (fun hc1 => ?_) (fun hc1 => ?_)
    ·have hj1 : 1 ≤ j := by have : (0 : Int) ≤ (j : Int) - 1 := by simpa using hc1
                            omega
     obtain ⟨bb, lb, rfl, hcb, hsb⟩ := hO.elem (by omega)
     have hcell := hcb H (Co ++ (C ++ L)) (by intro x hx; first | exact hx | exact List.mem_append_left _ hx | simp [baseL, hx])
     have hel : lb[0 + (((j : Int) - 1).toNat) * 1]? = some (u8v (bs[j - 1]'(by omega))) := by
       have := hsb (j - 1) (u8v (bs[j - 1]'(by omega))) (map_u8 _ _ _)
       rw [show (0 + (((j : Int) - 1).toNat) * 1) = 0 + (j - 1) by omega]; exact this
     refine gc_skip ?_
     refine gk_then ?_
     refine gc_seq ?_
     refine gc_block ?_
     refine gc_seqr [(.mv, 0), (.mv, 1), (.mv, 2), (.mv, 3), (.mv, 4), (.nm, 5), (.nm, 6), (.mv, 7)] rfl ?_
     refine gm rfl rfl rfl rfl ?_
     refine gm rfl rfl rfl rfl ?_
     refine gm rfl rfl rfl rfl ?_
     refine gr_rd rfl rfl rfl (rd_indexS Tryd.underlying117 Tryd.sizeOf5 rfl rfl rfl (by omega) (by omega)) ?_
     refine gr_rd rfl rfl rfl (rd_load1 Tryd.to5 rfl hcell hel) ?_
     refine gr_nx rfl rfl rfl (nx_slice1 (vs := [_]) Tryd.underlying117 Tryd.sizeOf5 Tryd.zeroValue5 rfl rfl rfl (by first | exact oneCells_of_all rfl | assumption) rfl rfl) ?_; rintro _ _ _ _ ⟨b34, rfl, rfl, rfl⟩; refine ⟨trivial, ?_⟩
     refine gr_nx rfl rfl rfl (nx_append Tryd.app117_117 rfl rfl hOo pik (src_one rfl (oneCells_of_all rfl) List.mem_cons_self) (by omega) (by omega)) ?_; rintro v35 H' L' hle ⟨C2, hO2, _, rfl, rfl⟩; refine ⟨trivial, ?_⟩
     refine ga rfl rfl rfl rfl ?_
     refine gr_nil ?_
     refine gk_inBlock ?_
     refine gk_then ?_
     refine gc_seqr [(.mv, 0), (.mv, 1), (.mv, 2)] rfl ?_
     refine gm rfl rfl rfl rfl ?_
     (first | refine gr_rd rfl rfl rfl (rd_sub rfl rfl (IntWalk.i64_in _ (by omega))) ?_ | refine gr_rd rfl rfl rfl (rd_sub rfl rfl rfl) ?_)
     refine ga rfl rfl rfl rfl ?_
     refine gr_nil ?_
     refine gk_drop (L' := C2 ++ (C ++ L)) sbl ?_
     refine gk_round (j - 1, v35, C2) ?_ ?_ (by repeat (first | exact Subs.nil | refine Subs.cons (by first | rfl | (simp [find]; omega)) ?_))
     · show j - 1 < j
       omega
     · refine ⟨rfl, rfl, by simp only; omega, ?_⟩
       have e := take_back bs j (by omega) hj
       simp only
       rw [e, show bs.length - (j - 1) + 1 = bs.length - j + 1 + 1 by omega]
       simpa [u8v] using hO2
    ·have hj0 : j = 0 := by simp at hc1; omega
     subst hj0
     rw [Nat.sub_zero, List.take_of_length_le (by simp)] at hOo
     refine gc_exit ?_
     refine gk_exit_then ?_
     refine gk_exit_then ?_
     refine gk_here ?_
     refine gk_then ?_
     refine gc_seq (gc_seqr [(.mv, 0), (.mv, 1), (.mv, 2)] rfl ?_)
     refine gm rfl rfl rfl rfl ?_
     refine gr_rd rfl rfl rfl (rd_convOw Tryd.underlying117 Tryd.underlying9 Tryd.underlying5 rfl hOo (by intro x hx; first | exact hx | exact List.mem_append_left _ hx | simp [baseL, hx])) ?_
     refine ga rfl rfl rfl rfl ?_
     refine gr_nil (gk_then ?_)
     refine gc_ret ?_
     refine gk_result (L' := L) (.inl rfl) _ (res1 rfl rfl) sbl gle ?_
     exact ⟨by simp [numB, hd], rfl, rfl⟩
theorem num_nat (H : Gh) (L : Chunks) (n : Nat) (hn : n < 9223372036854775808) :
    CC Tryd.prog 93 #[i64 n] H L (fun v H' L' => v = str (numB n) ∧ H = H' ∧ L = L') := by
  have h := num_cc H L (n : Int) (by omega)
  rwa [Int.toNat_natCast] at h
theorem list_cc (H : Gh) (L : Chunks) (v : Value) (ls : List Bs) (hv : Strs H L v ls) (hb : (listB ls).length < 1099511627776) :
    CC Tryd.prog 92 #[v] H L (fun u H' L' => u = str (listB ls) ∧ H = H' ∧ L = L') := by
 obtain ⟨A, bv, ov, cv, lv, rfl, hcv, hnv, hv0, hv1, hv2⟩ := hv
 have hfl : (ls.flatMap textB).length < 1099511627776 := by unfold listB at hb; rw [List.length_append] at hb; omega
 refine cc_of Tryd.func92 rfl (Nat.le_of_ble_eq_true rfl) ?_
 simp only [Tryd.ntmps92]
 refine gc_seq (gc_seqr [(.mv, 0)] rfl ?_)
 refine ga rfl rfl rfl rfl ?_
 refine gr_nil (gk_then ?_)
 refine gc_seq (gc_seqr [(.mv, 0), (.mv, 1), (.nm, 2), (.nm, 3), (.mv, 4)] rfl ?_)
 refine gm rfl rfl rfl rfl ?_
 refine gr_rd rfl rfl rfl (rd_lenS Tryd.underlying69 rfl) ?_
 refine gr_nx rfl rfl rfl (nx_call Tryd.en93 rfl (num_nat H L _ (by omega))) ?_; rintro v8 H' L' hle ⟨rfl, rfl, rfl⟩; refine ⟨trivial, ?_⟩
 refine gr_nx rfl rfl rfl (nx_convBytes Tryd.underlying9 Tryd.underlying117 Tryd.underlying5 rfl) ?_; rintro v9 H' L' hle ⟨C0, hO0, _, rfl, rfl⟩; refine ⟨trivial, ?_⟩
 refine ga rfl rfl rfl rfl ?_
 refine gr_nil (gk_then ?_)
 refine gc_seq ?_
 refine gc_seq (gc_seqr [(.mv, 0), (.mv, 1), (.mv, 2)] rfl ?_)
 refine gm rfl rfl rfl rfl ?_
 refine gr_rd rfl rfl rfl (rd_lenS Tryd.underlying69 rfl) ?_
 refine gm rfl rfl rfl rfl ?_
 refine gr_nil (gk_then ?_)
 refine gc_block ?_
 refine gc_loop (fun s : Nat × Value × Chunks => [(3, s.2.1), (10, .slice A ls.length cv), (11, i64 ls.length), (12, i64 s.1)]) (fun s H1 L1 => H = H1 ∧ L1 = s.2.2 ++ L ∧ s.1 ≤ ls.length ∧ Ow 5 1 s.2.2 s.2.1 (numB ls.length ++ (ls.take s.1).flatMap textB).length ((numB ls.length ++ (ls.take s.1).flatMap textB).map u8v)) (fun s => ls.length - s.1) ((0, v9, C0)) ?_ sbs ?_
 ·exact ⟨rfl, rfl, Nat.zero_le _, by simpa using hO0⟩
 ·rintro ⟨k, vo, C⟩ H1 L1 ⟨rfl, rfl, hk, hO⟩
  simp only at hk hO
  show GC _ _ _ _ [(3, vo), (10, .slice A ls.length cv), (11, i64 ls.length), (12, i64 k)] H (C ++ L)
  refine gc_seq (gc_seqr [(.mv, 0)] rfl ?_)
  refine gr_rd rfl rfl rfl (rd_lss rfl rfl) ?_
  refine gr_nil (gk_then ?_)
  refine gc_seq ?_
  refine gc_cond rfl (fun hc0 => ?_) (fun hc0 => ?_)
  ·have hlt : k < ls.length := by simpa using hc0
   obtain ⟨rfl, hca, hsa⟩ := sl_at hv1 hv2 hlt
   have hca1 := Cells.mono (L' := C ++ L) hca (Gh.le_refl H) (by intro x hx; first | exact hx | exact List.mem_append_left _ hx | simp [baseL, hx])
   have hll : (numB ls.length ++ (ls.take k).flatMap textB).length < 1099511627786 := by
     have h1 := numB_len ls.length
     have h2 := flat_le ls k
     simp only [List.length_append]; omega
   have hlk : ls[k].length < 1099511627776 := by
     have h2 := flat_le ls (k + 1)
     rw [flat_take ls k hlt] at h2
     simp only [List.length_append] at h2; omega
   have hnk := numB_len ls[k].length
   refine gc_skip ?_
   refine gk_then ?_
   refine gc_seq ?_
   refine gc_block ?_
   refine gc_seq (gc_seqr [(.mv, 0), (.mv, 1), (.mv, 2)] rfl ?_)
   refine gr_rd rfl rfl rfl (rd_indexS Tryd.underlying69 Tryd.sizeOf9 rfl rfl rfl (by omega) (by omega)) ?_
   refine gr_rd rfl rfl rfl (rd_load1 Tryd.to9 rfl hca1 (seg_one hsa)) ?_
   refine ga rfl rfl rfl rfl ?_
   refine gr_nil (gk_then ?_)
   refine gc_seqr [(.mv, 0), (.mv, 1), (.mv, 2), (.nm, 3), (.nm, 4), (.mv, 5), (.nm, 6), (.mv, 7)] rfl ?_
   refine gm rfl rfl rfl rfl ?_
   refine gm rfl rfl rfl rfl ?_
   refine gr_rd rfl rfl rfl (rd_lenL Tryd.underlying9 rfl) ?_
   refine gr_nx rfl rfl rfl (nx_call Tryd.en93 rfl (num_nat H (C ++ L) _ (by omega))) ?_; rintro v19 H' L' hle ⟨rfl, rfl, rfl⟩; refine ⟨trivial, ?_⟩
   refine gr_nx rfl rfl rfl (nx_append Tryd.app117_9 rfl rfl hO pik src_str (by simp only [size_str]; omega) (by simp only [size_str]; omega)) ?_; rintro v20 H' L' hle ⟨C1, hO1, _, rfl, rfl⟩; refine ⟨trivial, ?_⟩
   refine gm rfl rfl rfl rfl ?_
   refine gr_nx rfl rfl rfl (nx_append Tryd.app117_9 rfl rfl hO1 pik src_str (by simp only [size_str]; omega) (by simp only [size_str]; omega)) ?_; rintro v22 H' L' hle ⟨C2, hO2, _, rfl, rfl⟩; refine ⟨trivial, ?_⟩
   refine ga rfl rfl rfl rfl ?_
   refine gr_nil ?_
   refine gk_inBlock ?_
   refine gk_then ?_
   refine gc_seqr [(.mv, 0), (.mv, 1)] rfl ?_
   (first | refine gr_rd rfl rfl rfl (rd_add rfl rfl (IntWalk.i64_in _ (by omega))) ?_ | refine gr_rd rfl rfl rfl (rd_add rfl rfl rfl) ?_)
   refine gm rfl rfl rfl rfl ?_
   refine gr_nil ?_
   refine gk_round (k + 1, v22, C2) ?_ ?_ sbs
   · show ls.length - (k + 1) < ls.length - k
     omega
   · refine ⟨rfl, rfl, by simp only; omega, ?_⟩
     simp only
     rw [flat_take ls k hlt]
     simpa [Nat.add_assoc, size_str] using hO2
  ·have hk2 : k = ls.length := by simp at hc0; omega
   subst hk2
   rw [List.take_length] at hO
   refine gc_exit ?_
   refine gk_exit_then ?_
   refine gk_exit_then ?_
   refine gk_here ?_
   refine gk_then ?_
   refine gc_seq (gc_seqr [(.mv, 0), (.mv, 1), (.mv, 2)] rfl ?_)
   refine gm rfl rfl rfl rfl ?_
   refine gr_rd rfl rfl rfl (rd_convOw Tryd.underlying117 Tryd.underlying9 Tryd.underlying5 rfl hO (by intro x hx; first | exact hx | exact List.mem_append_left _ hx | simp [baseL, hx])) ?_
   refine ga rfl rfl rfl rfl ?_
   refine gr_nil (gk_then ?_)
   refine gc_ret ?_
   refine gk_result (L' := L) (.inl rfl) _ (res1 rfl rfl) sbl gle ?_
   exact ⟨rfl, rfl, rfl⟩
theorem u8_mod (x : Nat) : IntKind.u8.wrap ((x % 256 : Nat) : Int) = ((UInt8.ofNat x).toNat : Int) := by
  rw [IntKind.wrap_u8]; simp
theorem ow_bytes {e b : Nat} (l : Bs) : Ow e 1 [(b, .cells (l.map u8v).toArray e (0, 0))] (.slice (some ⟨b, 0, none⟩) l.length l.length) l.length (l.map u8v) := Ow.new (by simp)
theorem rnum_cc (H : Gh) (L : Chunks) (n : Nat) (hn : n < 9223372036854775808) :
    CC Tryd.prog 99 #[i64 n] H L (fun v H' L' => v = str (numB n) ∧ H = H' ∧ L = L') := by
 refine cc_of Tryd.func99 rfl (Nat.le_of_ble_eq_true rfl) ?_
 simp only [Tryd.ntmps99]
 refine gc_seq (gc_seqr [(.mv, 0)] rfl ?_)
 refine ga rfl rfl rfl rfl ?_
 refine gr_nil (gk_then ?_)
 refine gc_seq (gc_seqr [(.mv, 0)] rfl ?_)
 refine ga rfl rfl rfl rfl ?_
 refine gr_nil (gk_then ?_)
 refine gc_seq (gc_seqr [(.mv, 0)] rfl ?_)
 refine ga rfl rfl rfl rfl ?_
 refine gr_nil (gk_then ?_)
 refine gc_seq ?_
 refine gc_block ?_
 refine gc_loop (fun s : Nat × Bs => [(0, i64 s.1), (3, str s.2), (4, i64 s.2.length)]) (fun s H1 L1 => H = H1 ∧ L.Sublist L1 ∧ digits 9 n = digits (9 - s.2.length) s.1 ++ s.2 ∧ s.2.length ≤ 9 ∧ s.1 < 256 ^ (9 - s.2.length) ∧ s.1 < 9223372036854775808) (fun s => s.1) ((n, [])) ?_ sbs ?_
 ·exact ⟨rfl, List.Sublist.refl _, by simp, by simp, by simp; omega, by omega⟩
 ·rintro ⟨x, bs⟩ H1 L1 ⟨rfl, hL1, hd, hl, hx, hx2⟩
  simp only at hd hl hx hx2
  refine gc_drop hL1 ?_
  show GC _ _ _ _ [(0, i64 x), (3, str bs), (4, i64 bs.length)] H L
  refine gc_seq ?_
  refine gc_seq (gc_seqr [(.mv, 0), (.mv, 1)] rfl ?_)
  refine gm rfl rfl rfl rfl ?_
  refine gr_rd rfl rfl rfl (rd_gtr rfl rfl) ?_
  refine gr_nil (gk_then ?_)
  refine gc_cond rfl (fun hc0 => ?_) (fun hc0 => ?_)
  ·have hx1 : 0 < x := by simpa using hc0
   refine gc_skip ?_
   refine gk_then ?_
   refine gc_block ?_
   refine gc_seq (gc_seqr [(.mv, 0), (.mv, 1), (.mv, 2), (.nm, 3), (.mv, 4), (.mv, 5), (.mv, 6), (.mv, 7)] rfl ?_)
   refine gm rfl rfl rfl rfl ?_
   refine gr_rd rfl rfl rfl (rd_rem rfl rfl (by omega) (r := ((x % 256 : Nat) : Int)) (by rw [Int.tmod_eq_emod_of_nonneg (by omega)]; omega)) ?_
   refine gr_rd rfl rfl rfl (rd_convInt Tryd.underlying3 Tryd.underlying5 rfl (u8_mod x)) ?_
   refine gr_nx rfl rfl rfl (nx_slice1 (vs := [_]) Tryd.underlying117 Tryd.sizeOf5 Tryd.zeroValue5 rfl rfl rfl (by first | exact oneCells_of_all rfl | assumption) rfl rfl) ?_; rintro _ _ _ _ ⟨b10, rfl, rfl, rfl⟩; refine ⟨trivial, ?_⟩
   refine gr_rd rfl rfl rfl (rd_convOw Tryd.underlying117 Tryd.underlying9 Tryd.underlying5 rfl (ow_bytes (b := b10) (e := 5) [UInt8.ofNat x]) (by intro x hx; first | exact hx | exact List.mem_append_left _ hx | simp [baseL, hx])) ?_
   refine gm rfl rfl rfl rfl ?_
   refine gr_rd rfl rfl rfl (rd_strAddL rfl rfl (by simp; omega)) ?_
   refine ga rfl rfl rfl rfl ?_
   refine gr_nil (gk_then ?_)
   refine gc_seq (gc_seqr [(.mv, 0), (.mv, 1), (.mv, 2)] rfl ?_)
   refine gm rfl rfl rfl rfl ?_
   refine gr_rd rfl rfl rfl (rd_quo rfl rfl (by omega) (r := ((x / 256 : Nat) : Int)) (by rw [IntWalk.i64_quo _ _ (by omega)]; omega)) ?_
   refine ga rfl rfl rfl rfl ?_
   refine gr_nil (gk_then ?_)
   refine gc_seqr [(.mv, 0), (.mv, 1), (.mv, 2)] rfl ?_
   refine gm rfl rfl rfl rfl ?_
   (first | refine gr_rd rfl rfl rfl (rd_add rfl rfl (IntWalk.i64_in _ (by omega))) ?_ | refine gr_rd rfl rfl rfl (rd_add rfl rfl rfl) ?_)
   refine ga rfl rfl rfl rfl ?_
   refine gr_nil ?_
   refine gk_inBlock ?_
   refine gk_round (x / 256, UInt8.ofNat x :: bs) ?_ ?_ sbs
   · show x / 256 < x
     omega
   · have h := pow_step (x := x) (by omega) hx
     refine ⟨rfl, sbl, ?_, by simp; omega, ?_, by simp only; omega⟩
     · rw [hd, digits_step (by omega) h.1]; simp [Nat.sub_sub]
     · simpa [Nat.sub_sub] using h.2
  ·have hx0 : x = 0 := by simp at hc0; omega
   subst hx0
   rw [digits_zero, List.nil_append] at hd
   refine gc_exit ?_
   refine gk_exit_then ?_
   refine gk_exit_then ?_
   refine gk_here ?_
   refine gk_then ?_
   refine gc_seq (gc_seqr [(.mv, 0), (.mv, 1), (.nm, 2), (.mv, 3), (.mv, 4), (.mv, 5), (.mv, 6)] rfl ?_)
   refine gm rfl rfl rfl rfl ?_
   refine gr_rd rfl rfl rfl (rd_convInt Tryd.underlying3 Tryd.underlying5 rfl (u8_of bs.length)) ?_
   refine gr_nx rfl rfl rfl (nx_slice1 (vs := [_]) Tryd.underlying117 Tryd.sizeOf5 Tryd.zeroValue5 rfl rfl rfl (by first | exact oneCells_of_all rfl | assumption) rfl rfl) ?_; rintro _ _ _ _ ⟨b20, rfl, rfl, rfl⟩; refine ⟨trivial, ?_⟩
   refine gr_rd rfl rfl rfl (rd_convOw Tryd.underlying117 Tryd.underlying9 Tryd.underlying5 rfl (ow_bytes (b := b20) (e := 5) [UInt8.ofNat bs.length]) (by intro x hx; first | exact hx | exact List.mem_append_left _ hx | simp [baseL, hx])) ?_
   refine gm rfl rfl rfl rfl ?_
   refine gr_rd rfl rfl rfl (rd_strAddL rfl rfl (by simp; omega)) ?_
   refine ga rfl rfl rfl rfl ?_
   refine gr_nil (gk_then ?_)
   refine gc_ret ?_
   refine gk_result (L' := L) (.inl rfl) _ (res1 rfl rfl) sbl gle ?_
   exact ⟨by simp [numB, hd], rfl, rfl⟩
theorem rtext_cc (H : Gh) (L : Chunks) (s : Bs) (hs : s.length < 1099511627776) :
    CC Tryd.prog 100 #[str s] H L (fun v H' L' => v = str (textB s) ∧ H = H' ∧ L = L') := by
 have hn := numB_len s.length
 refine cc_of Tryd.func100 rfl (Nat.le_of_ble_eq_true rfl) ?_
 simp only [Tryd.ntmps100]
 refine gc_seq (gc_seqr [(.mv, 0)] rfl ?_)
 refine ga rfl rfl rfl rfl ?_
 refine gr_nil (gk_then ?_)
 refine gc_seq (gc_seqr [(.mv, 0), (.mv, 1), (.nm, 2), (.mv, 3), (.mv, 4), (.mv, 5)] rfl ?_)
 refine gm rfl rfl rfl rfl ?_
 refine gr_rd rfl rfl rfl (rd_lenL Tryd.underlying9 rfl) ?_
 refine gr_nx rfl rfl rfl (nx_call Tryd.en99 rfl (rnum_cc H L _ (by omega))) ?_; rintro v5 H' L' hle ⟨rfl, rfl, rfl⟩; refine ⟨trivial, ?_⟩
 refine gm rfl rfl rfl rfl ?_
 refine gr_rd rfl rfl rfl (rd_strAddL rfl rfl (by omega)) ?_
 refine ga rfl rfl rfl rfl ?_
 refine gr_nil (gk_then ?_)
 refine gc_ret ?_
 refine gk_result (L' := L) (.inl rfl) _ (res1 rfl rfl) sbl gle ?_
 exact ⟨rfl, rfl, rfl⟩
theorem rlist_cc (H : Gh) (L : Chunks) (v : Value) (ls : List Bs) (hv : Strs H L v ls) (hb : (listB ls).length < 1099511627776) :
    CC Tryd.prog 78 #[v] H L (fun u H' L' => u = str (listB ls) ∧ H = H' ∧ L = L') := by
 obtain ⟨A, bv, ov, cv, lv, rfl, hcv, hnv, hv0, hv1, hv2⟩ := hv
 have hfl : (ls.flatMap textB).length < 1099511627776 := by unfold listB at hb; rw [List.length_append] at hb; omega
 refine cc_of Tryd.func78 rfl (Nat.le_of_ble_eq_true rfl) ?_
 simp only [Tryd.ntmps78]
 refine gc_seq (gc_seqr [(.mv, 0)] rfl ?_)
 refine ga rfl rfl rfl rfl ?_
 refine gr_nil (gk_then ?_)
 refine gc_seq (gc_seqr [(.mv, 0), (.mv, 1), (.nm, 2), (.mv, 3)] rfl ?_)
 refine gm rfl rfl rfl rfl ?_
 refine gr_rd rfl rfl rfl (rd_lenS Tryd.underlying69 rfl) ?_
 refine gr_nx rfl rfl rfl (nx_call Tryd.en99 rfl (rnum_cc H L _ (by omega))) ?_; rintro v8 H' L' hle ⟨rfl, rfl, rfl⟩; refine ⟨trivial, ?_⟩
 refine ga rfl rfl rfl rfl ?_
 refine gr_nil (gk_then ?_)
 refine gc_seq ?_
 refine gc_seq (gc_seqr [(.mv, 0), (.mv, 1), (.mv, 2)] rfl ?_)
 refine gm rfl rfl rfl rfl ?_
 refine gr_rd rfl rfl rfl (rd_lenS Tryd.underlying69 rfl) ?_
 refine gm rfl rfl rfl rfl ?_
 refine gr_nil (gk_then ?_)
 refine gc_block ?_
 refine gc_loop (fun k : Nat => [(3, str (numB ls.length ++ (ls.take k).flatMap textB)), (9, .slice A ls.length cv), (10, i64 ls.length), (11, i64 k)]) (fun k H1 L1 => H = H1 ∧ L = L1 ∧ k ≤ ls.length) (fun k => ls.length - k) (0) ?_ (by refine Subs.cons ?_ sbs; simp only [List.take_zero, List.flatMap_nil, List.append_nil]; rfl) ?_
 ·exact ⟨rfl, rfl, Nat.zero_le _⟩
 ·rintro k H1 L1 ⟨rfl, rfl, hk⟩
  refine gc_seq (gc_seqr [(.mv, 0)] rfl ?_)
  refine gr_rd rfl rfl rfl (rd_lss rfl rfl) ?_
  refine gr_nil (gk_then ?_)
  refine gc_seq ?_
  refine gc_cond rfl (fun hc0 => ?_) (fun hc0 => ?_)
  ·have hlt : k < ls.length := by simpa using hc0
   obtain ⟨rfl, hca, hsa⟩ := sl_at hv1 hv2 hlt
   have hca1 := Cells.mono (L' := L) hca (Gh.le_refl H) (by intro x hx; first | exact hx | exact List.mem_append_left _ hx | simp [baseL, hx])
   have hll : (numB ls.length ++ (ls.take k).flatMap textB).length < 1099511627786 := by
     have h1 := numB_len ls.length
     have h2 := flat_le ls k
     simp only [List.length_append]; omega
   have hlk : (textB ls[k]).length < 1099511627776 ∧ ls[k].length < 1099511627776 := by
     have h2 := flat_le ls (k + 1)
     rw [flat_take ls k hlt] at h2
     simp only [List.length_append, textB] at h2 ⊢; omega
   refine gc_skip ?_
   refine gk_then ?_
   refine gc_seq ?_
   refine gc_block ?_
   refine gc_seq (gc_seqr [(.mv, 0), (.mv, 1), (.mv, 2)] rfl ?_)
   refine gr_rd rfl rfl rfl (rd_indexS Tryd.underlying69 Tryd.sizeOf9 rfl rfl rfl (by omega) (by omega)) ?_
   refine gr_rd rfl rfl rfl (rd_load1 Tryd.to9 rfl hca1 (seg_one hsa)) ?_
   refine ga rfl rfl rfl rfl ?_
   refine gr_nil (gk_then ?_)
   refine gc_seqr [(.mv, 0), (.mv, 1), (.nm, 2), (.mv, 3), (.mv, 4)] rfl ?_
   refine gm rfl rfl rfl rfl ?_
   refine gm rfl rfl rfl rfl ?_
   refine gr_nx rfl rfl rfl (nx_call Tryd.en100 rfl (rtext_cc H L _ hlk.2)) ?_; rintro v17 H' L' hle ⟨rfl, rfl, rfl⟩; refine ⟨trivial, ?_⟩
   refine gr_rd rfl rfl rfl (rd_strAddL rfl rfl (by have := hlk.1; omega)) ?_
   refine ga rfl rfl rfl rfl ?_
   refine gr_nil ?_
   refine gk_inBlock ?_
   refine gk_then ?_
   refine gc_seqr [(.mv, 0), (.mv, 1)] rfl ?_
   (first | refine gr_rd rfl rfl rfl (rd_add rfl rfl (IntWalk.i64_in _ (by omega))) ?_ | refine gr_rd rfl rfl rfl (rd_add rfl rfl rfl) ?_)
   refine gm rfl rfl rfl rfl ?_
   refine gr_nil ?_
   refine gk_round (k + 1) (by omega) ⟨rfl, rfl, by omega⟩ ?_
   refine Subs.cons ?_ sbs
   simp only [find, cond]
   rw [flat_take ls k hlt, textB, List.append_assoc]
  ·have hk2 : k = ls.length := by simp at hc0; omega
   subst hk2
   rw [List.take_length]
   refine gc_exit ?_
   refine gk_exit_then ?_
   refine gk_exit_then ?_
   refine gk_here ?_
   refine gk_then ?_
   refine gc_seq (gc_seqr [(.mv, 0), (.mv, 1)] rfl ?_)
   refine gm rfl rfl rfl rfl ?_
   refine ga rfl rfl rfl rfl ?_
   refine gr_nil (gk_then ?_)
   refine gc_ret ?_
   refine gk_result (L' := L) (.inl rfl) _ (res1 rfl rfl) sbl gle ?_
   exact ⟨rfl, rfl, rfl⟩
theorem rnumZ_cc (H : Gh) (L : Chunks) (n : Int) (h0 : 0 ≤ n) (hn : n < 9223372036854775808) :
    CC Tryd.prog 99 #[i64 n] H L (fun v H' L' => v = str (numB n.toNat) ∧ H = H' ∧ L = L') := by
  obtain ⟨m, rfl⟩ := Int.eq_ofNat_of_zero_le h0
  exact rnum_cc H L m (by omega)
theorem rnum9_cc (H : Gh) (L : Chunks) (n : Int) (hn : n < 9223372036854775808) :
    CC Tryd.prog 79 #[i64 n] H L (fun v H' L' => v = str (numB n.toNat) ∧ H = H' ∧ L = L') := by
 refine cc_of Tryd.func79 rfl (Nat.le_of_ble_eq_true rfl) ?_
 simp only [Tryd.ntmps79]
 refine gc_seq (gc_seqr [(.mv, 0)] rfl ?_)
 refine ga rfl rfl rfl rfl ?_
 refine gr_nil (gk_then ?_)
 refine gc_seq ?_
 refine gc_seq (gc_seqr [(.mv, 0), (.mv, 1)] rfl ?_)
 refine gm rfl rfl rfl rfl ?_
 refine gr_rd rfl rfl rfl (rd_lss rfl rfl) ?_
 refine gr_nil (gk_then ?_)
 refine gc_cond rfl (fun hc0 => ?_) (fun hc0 => ?_)
 ·have h0 : n.toNat = 0 := by simp at hc0; omega
  refine gc_seqr [(.mv, 0)] rfl ?_
  refine ga rfl rfl rfl rfl ?_
  refine gr_nil (gk_then ?_)
  refine gc_seq (gc_seqr [(.mv, 0), (.nm, 1), (.mv, 2)] rfl ?_)
  refine gm rfl rfl rfl rfl ?_
  refine gr_nx rfl rfl rfl (nx_call Tryd.en99 rfl (rnumZ_cc H L _ (by omega) (by omega))) ?_; rintro v6 H' L' hle ⟨rfl, rfl, rfl⟩; refine ⟨trivial, ?_⟩
  refine ga rfl rfl rfl rfl ?_
  refine gr_nil (gk_then ?_)
  refine gc_ret ?_
  refine gk_result (L' := L) (.inl rfl) _ (res1 rfl rfl) sbl gle ?_
  exact ⟨by rw [h0]; rfl, rfl, rfl⟩
 ·have h0 : 0 ≤ n := by simpa using hc0
  refine gc_skip ?_
  refine gk_then ?_
  refine gc_seq (gc_seqr [(.mv, 0), (.nm, 1), (.mv, 2)] rfl ?_)
  refine gm rfl rfl rfl rfl ?_
  refine gr_nx rfl rfl rfl (nx_call Tryd.en99 rfl (rnumZ_cc H L _ (by omega) (by omega))) ?_; rintro v6 H' L' hle ⟨rfl, rfl, rfl⟩; refine ⟨trivial, ?_⟩
  refine ga rfl rfl rfl rfl ?_
  refine gr_nil (gk_then ?_)
  refine gc_ret ?_
  refine gk_result (L' := L) (.inl rfl) _ (res1 rfl rfl) sbl gle ?_
  exact ⟨rfl, rfl, rfl⟩
end Go.Proofs.YtfhldfjknagidaaDoor

/-
  Walks: digests.
-/
set_option linter.unusedSimpArgs false
set_option linter.unusedVariables false
set_option linter.unnecessarySimpa false
set_option linter.all false
namespace Go.Proofs.YtfhldfjknagidaaDoor
open Go.VK Go.Tr
set_option maxRecDepth 20000
theorem wordsTo_length (p : Bs) : ∀ k, (wordsTo p k).length = k
  | 0 => rfl
  | k + 1 => by simp [wordsTo, wordsTo_length p k]
theorem words_next {p : Bs} {k : Nat} {x : UInt32} (hk : k < 64) (hx : x = if k < 16 then word p k else nextW (wordsTo p k) k) :
    wr ((wordsTo p k ++ List.replicate (64 - k) 0).map w32) (0 + ((k : Int).toNat) * 1) [w32 x] = (wordsTo p (k + 1) ++ List.replicate (64 - (k + 1)) 0).map w32 := by
  have h := wr_next w32 (wordsTo p k) 0 x 64 (by rw [wordsTo_length]; exact hk)
  rw [wordsTo_length] at h
  rw [show 0 + ((k : Int).toNat) * 1 = k by omega, h, hx]
  rfl
theorem words_fit {p : Bs} {k : Nat} (hk : k < 64) (v : Value) : 0 + ((k : Int).toNat) * 1 + [v].length ≤ ((wordsTo p k ++ List.replicate (64 - k) 0).map w32).length := by
  simp [wordsTo_length]; omega
theorem words_at {p : Bs} {k j : Nat} {i : Int} (hj : j < k) (hi : i = (j : Int)) : ((wordsTo p k ++ List.replicate (64 - k) 0).map w32)[0 + i.toNat * 1]? = some (w32 ((wordsTo p k).getD j 0)) := by
  subst hi
  rw [show 0 + ((j : Int).toNat) * 1 = j by omega, List.map_append, List.getElem?_append_left (by simp [wordsTo_length]; exact hj)]
  exact w32_at _ (by rw [wordsTo_length]; exact hj)
theorem w32_at2 (l : List UInt32) {j : Nat} {i : Int} (h : j < l.length) (hi : i = (j : Int)) : (l.map w32)[0 + i.toNat * 1]? = some (w32 (l.getD j 0)) := by
  subst hi; rw [show 0 + ((j : Int).toNat) * 1 = j by omega]; exact w32_at l h
theorem byte_at {lp : List Value} {o : Nat} {p : Bs} (hs : Seg lp o (p.map u8v)) {j : Nat} {i : Int} (hi : i = (j : Int)) (hj : j < p.length) : lp[o + i.toNat * 1]? = some (u8v (p.getD j 0)) := by
  subst hi
  rw [show ((j : Int).toNat) * 1 = j by omega]
  refine hs j _ ?_
  simp [List.getD_eq_getElem?_getD, hj]
theorem roundK_length : roundK.length = 64 := rfl
/-- The first k sums stand. -/
def addTo (h r : List UInt32) (k : Nat) : List UInt32 := (List.zipWith (· + ·) h r).take k ++ h.drop k
theorem addTo_length {h r : List UInt32} (he : h.length = r.length) (k : Nat) : (addTo h r k).length = h.length := by
  simp [addTo, he]; omega
theorem addTo_at {h r : List UInt32} (he : h.length = r.length) {k : Nat} (hk : k < h.length) : (addTo h r k).getD k 0 = h.getD k 0 := by
  rw [addTo, List.getD_eq_getElem?_getD, List.getD_eq_getElem?_getD, List.getElem?_append_right (by simp; omega)]
  simp
  rw [show k - min k (min h.length r.length) = 0 by omega]
  simp
theorem addTo_next {h r : List UInt32} (he : h.length = r.length) {k : Nat} (hk : k < h.length) :
    wr ((addTo h r k).map w32) (0 + ((k : Int).toNat) * 1) [w32 (h.getD k 0 + r.getD k 0)] = (addTo h r (k + 1)).map w32 := by
  have e1 : (List.zipWith (· + ·) h r).take (k + 1) = (List.zipWith (· + ·) h r).take k ++ [h.getD k 0 + r.getD k 0] := by
    rw [List.take_add_one]
    congr 1
    simp [List.getElem?_zipWith, List.getD_eq_getElem?_getD, hk, show k < r.length by omega]
  have e2 : ((addTo h r k).map w32).take k = ((List.zipWith (· + ·) h r).take k).map w32 := by
    rw [addTo, List.map_append, List.take_append_of_le_length (by simp; omega), ← List.map_take, List.take_take, Nat.min_self]
  have e3 : ((addTo h r k).map w32).drop (k + 1) = (h.drop (k + 1)).map w32 := by
    rw [addTo, List.map_append, List.drop_append, List.drop_eq_nil_of_le (by simp; omega), List.nil_append, List.length_map, List.length_take, List.length_zipWith, ← List.map_drop, List.drop_drop]
    congr 2; omega
  rw [show 0 + ((k : Int).toNat) * 1 = k by omega, wr, e2, List.length_singleton, e3, addTo, e1]
  simp
theorem addTo_all {h r : List UInt32} (he : h.length = r.length) : addTo h r h.length = List.zipWith (· + ·) h r := by
  simp [addTo]
  rw [List.take_of_length_le (by simp; omega)]

theorem rot_and {k : Nat} (h0 : 0 < k) (h1 : k < 32) : IntKind.u64.wrap (((BitVec.ofInt IntKind.u64.bits (18446744073709551616 - (k : Int)) &&& BitVec.ofInt IntKind.u64.bits 31).toNat : Nat) : Int) = ((32 - k : Nat) : Int) := by
  have : ∀ j : Nat, j < 32 → 0 < j → IntKind.u64.wrap (((BitVec.ofInt IntKind.u64.bits (18446744073709551616 - (j : Int)) &&& BitVec.ofInt IntKind.u64.bits 31).toNat : Nat) : Int) = ((32 - j : Nat) : Int) := by decide
  exact this k h1 h0
theorem rot_cc (H : Gh) (L : Chunks) (x : UInt32) (k : Nat) (n : Int) (hn : n = -(k : Int)) (h0 : 0 < k) (h1 : k < 32) :
    CC Tryd.prog 129 #[w32 x, i64 n] H L (fun v H' L' => v = w32 (rotr x k) ∧ H = H' ∧ L = L') := by
 refine cc_of Tryd.func129 rfl (Nat.le_of_ble_eq_true rfl) ?_
 simp only [Tryd.ntmps129]
 refine gc_seq (gc_seqr [(.mv, 0)] rfl ?_)
 refine ga rfl rfl rfl rfl ?_
 refine gr_nil (gk_then ?_)
 refine gc_seq (gc_seqr [(.mv, 0), (.mv, 1), (.mv, 2), (.mv, 3)] rfl ?_)
 refine gm rfl rfl rfl rfl ?_
 refine gr_rd rfl rfl rfl (rd_convInt Tryd.underlying3 Tryd.underlying39 rfl (r := 18446744073709551616 - (k : Int)) (by rw [hn, IntKind.wrap_u64]; omega)) ?_
 refine gr_rd rfl rfl rfl (rd_bits (.inl rfl) rfl rfl (r := ((32 - k : Nat) : Int)) (rot_and h0 h1)) ?_
 refine ga rfl rfl rfl rfl ?_
 refine gr_nil (gk_then ?_)
 refine gc_seq (gc_seqr [(.mv, 0), (.mv, 1), (.mv, 2), (.mv, 3), (.mv, 4), (.mv, 5), (.mv, 6), (.mv, 7), (.mv, 8)] rfl ?_)
 refine gm rfl rfl rfl rfl ?_
 refine gm rfl rfl rfl rfl ?_
 refine gr_rd rfl rfl rfl (rd_shl32 (k := 32 - k) (by omega) rfl rfl rfl) ?_
 refine gm rfl rfl rfl rfl ?_
 refine gm rfl rfl rfl rfl ?_
 refine gr_rd rfl rfl rfl (rd_sub rfl rfl (r := (k : Int)) (by rw [IntKind.wrap_u64]; omega)) ?_
 refine gr_rd rfl rfl rfl (rd_shr32 (k := k) (by omega) rfl rfl rfl) ?_
 (first | refine gr_rd rfl rfl rfl (rd_or32 rfl rfl) ?_ | refine gr_rd rfl rfl rfl (rd_bits (by simp) rfl rfl rfl) ?_)
 refine ga rfl rfl rfl rfl ?_
 refine gr_nil (gk_then ?_)
 refine gc_ret ?_
 refine gk_result (L' := L) (.inl rfl) _ (res1 rfl rfl) sbl gle ?_
 exact ⟨by rw [rotr, UInt32.or_comm], rfl, rfl⟩
theorem turn_cc (H : Gh) (L : Chunks) (x : UInt32) (k : Nat) (n : Int) (hn : n = (k : Int)) (h0 : 0 < k) (h1 : k < 32) :
    CC Tryd.prog 98 #[w32 x, .int .u32 n] H L (fun v H' L' => v = w32 (rotr x k) ∧ H = H' ∧ L = L') := by
 refine cc_of Tryd.func98 rfl (Nat.le_of_ble_eq_true rfl) ?_
 simp only [Tryd.ntmps98]
 refine gc_seq (gc_seqr [(.mv, 0)] rfl ?_)
 refine ga rfl rfl rfl rfl ?_
 refine gr_nil (gk_then ?_)
 refine gc_seq (gc_seqr [(.mv, 0), (.mv, 1), (.mv, 2), (.mv, 3), (.mv, 4), (.mv, 5), (.mv, 6), (.mv, 7), (.mv, 8)] rfl ?_)
 refine gm rfl rfl rfl rfl ?_
 refine gm rfl rfl rfl rfl ?_
 refine gr_rd rfl rfl rfl (rd_shr32 (k := k) (by omega) rfl rfl hn) ?_
 refine gm rfl rfl rfl rfl ?_
 refine gm rfl rfl rfl rfl ?_
 refine gr_rd rfl rfl rfl (rd_sub rfl rfl (r := ((32 - k : Nat) : Int)) (by rw [hn, IntKind.wrap_u32]; omega)) ?_
 refine gr_rd rfl rfl rfl (rd_shl32 (k := 32 - k) (by omega) rfl rfl rfl) ?_
 (first | refine gr_rd rfl rfl rfl (rd_or32 rfl rfl) ?_ | refine gr_rd rfl rfl rfl (rd_bits (by simp) rfl rfl rfl) ?_)
 refine ga rfl rfl rfl rfl ?_
 refine gr_nil (gk_then ?_)
 refine gc_ret ?_
 refine gk_result (L' := L) (.inl rfl) _ (res1 rfl rfl) sbl gle ?_
 exact ⟨rfl, rfl, rfl⟩
theorem mix_cc (H : Gh) {Tg : TypeId} {zg : Nat × Nat} (hG : H.imm 2 = some (.cells (roundK.map w32).toArray Tg zg)) (L : Chunks) (h : List UInt32) (hh : h.length = 8) (b : Nat) (T : TypeId)
    (bp op cap : Nat) (lp : List Value) (p : Bs) (hm : p.length = 64) (hcp0 : Cells H L bp lp) (hs : Seg lp op (p.map u8v)) :
    CC Tryd.prog 114 #[pt b 0, .slice (some ⟨bp, op, none⟩) 64 cap] H ((b, .cells (h.map w32).toArray T (0, 0)) :: L) (fun _ H' L' => H = H' ∧ (b, .cells ((mixH h p).map w32).toArray T (0, 0)) :: L = L') := by
 obtain ⟨h0, h1, h2, h3, h4, h5, h6, h7, he⟩ := list8 hh
 refine cc_of Tryd.func114 rfl (Nat.le_of_ble_eq_true rfl) ?_
 simp only [Tryd.ntmps114]
 refine gc_seq (gc_seqr [(.nm, 0)] rfl ?_)
 refine gr_nx rfl rfl rfl (nx_alloc Tryd.zeroValue167 rfl) ?_; rintro _ _ _ _ ⟨b4, rfl, rfl, rfl⟩; refine ⟨trivial, ?_⟩
 refine gr_nil (gk_then ?_)
 refine gc_seq ?_
 refine gc_seq (gc_seqr [(.mv, 0)] rfl ?_)
 refine gm rfl rfl rfl rfl ?_
 refine gr_nil (gk_then ?_)
 refine gc_block ?_
 refine gc_loop (fun k : Nat => [(0, pt b 0), (1, .slice (some ⟨bp, op, none⟩) 64 cap), (4, pt b4 0), (15, i64 k)]) (fun k H1 L1 => H = H1 ∧ (b4, .cells ((wordsTo p k ++ List.replicate (64 - k) 0).map w32).toArray 167 (0, 0)) :: (b, .cells (h.map w32).toArray T (0, 0)) :: L = L1 ∧ k ≤ 64) (fun k => 64 - k) (0) ?_ sbs ?_
 ·exact ⟨rfl, rfl, Nat.zero_le _⟩
 ·rintro k H1 L1 ⟨rfl, rfl, hk⟩
  refine gc_seq (gc_seqr [(.mv, 0)] rfl ?_)
  refine gr_rd rfl rfl rfl (rd_lss rfl rfl) ?_
  refine gr_nil (gk_then ?_)
  refine gc_seq ?_
  refine gc_cond rfl (fun hc0 => ?_) (fun hc0 => ?_)
  ·have hk64 : k < 64 := by simp at hc0; omega
   have hcp : Cells H ((b4, .cells ((wordsTo p k ++ List.replicate (64 - k) 0).map w32).toArray 167 (0, 0)) :: (b, .cells (h.map w32).toArray T (0, 0)) :: L) bp lp := hcp0.mono (Gh.le_refl _) (fun x hx => List.mem_cons_of_mem _ (List.mem_cons_of_mem _ hx))
   refine gc_skip ?_
   refine gk_then ?_
   refine gc_seq ?_
   refine gc_block ?_
   refine gc_seq (gc_seqr [(.mv, 0), (.mv, 1)] rfl ?_)
   refine gm rfl rfl rfl rfl ?_
   refine ga rfl rfl rfl rfl ?_
   refine gr_nil (gk_then ?_)
   refine gc_seq ?_
   refine gc_seq (gc_seqr [(.mv, 0), (.mv, 1)] rfl ?_)
   refine gm rfl rfl rfl rfl ?_
   refine gr_rd rfl rfl rfl (rd_lss rfl rfl) ?_
   refine gr_nil (gk_then ?_)
   refine gc_cond rfl (fun hc1 => ?_) (fun hc1 => ?_)
   ·have hk16 : k < 16 := by simp at hc1; omega
    refine gc_seq ?_
    refine gc_draw Tryd.mixed [(.mv, 0), (.mv, 1), (.mv, 2), (.mv, 3), (.mv, 4), (.mv, 5), (.mv, 6), (.mv, 7), (.mv, 8), (.mv, 9), (.mv, 10), (.mv, 11), (.mv, 12), (.mv, 13), (.mv, 14), (.mv, 15), (.mv, 16), (.mv, 17), (.mv, 18), (.mv, 19), (.mv, 20), (.mv, 21), (.mv, 22), (.mv, 23), (.mv, 24), (.mv, 25), (.mv, 26), (.mv, 27), (.mv, 28), (.mv, 29), (.mv, 30), (.mv, 31), (.mv, 32), (.mv, 33), (.mv, 34), (.fin, 35)] (by decide +kernel) _ (List.Sublist.refl _) ?_
    refine gm rfl rfl rfl rfl ?_
    refine gm rfl rfl rfl rfl ?_
    refine gm rfl rfl rfl rfl ?_
    (first | refine gr_rd rfl rfl rfl (rd_mul rfl rfl (IntWalk.i64_in _ (by omega))) ?_ | refine gr_rd rfl rfl rfl (rd_mul rfl rfl rfl) ?_)
    refine gr_rd rfl rfl rfl (rd_indexS Tryd.underlying117 Tryd.sizeOf5 rfl rfl rfl (by omega) (by omega)) ?_
    refine gr_rd rfl rfl rfl (rd_load1 Tryd.to5 rfl hcp (byte_at hs (j := 4 * k) (by omega) (by omega))) ?_
    refine gr_rd rfl rfl rfl (rd_conv8_32 Tryd.underlying5 Tryd.underlying135 rfl) ?_
    refine gr_rd rfl rfl rfl (rd_shl32 (k := 24) (by decide) rfl rfl rfl) ?_
    refine gm rfl rfl rfl rfl ?_
    refine gm rfl rfl rfl rfl ?_
    (first | refine gr_rd rfl rfl rfl (rd_mul rfl rfl (IntWalk.i64_in _ (by omega))) ?_ | refine gr_rd rfl rfl rfl (rd_mul rfl rfl rfl) ?_)
    (first | refine gr_rd rfl rfl rfl (rd_add rfl rfl (IntWalk.i64_in _ (by omega))) ?_ | refine gr_rd rfl rfl rfl (rd_add rfl rfl rfl) ?_)
    refine gr_rd rfl rfl rfl (rd_indexS Tryd.underlying117 Tryd.sizeOf5 rfl rfl rfl (by omega) (by omega)) ?_
    refine gr_rd rfl rfl rfl (rd_load1 Tryd.to5 rfl hcp (byte_at hs (j := 4 * k + 1) (by omega) (by omega))) ?_
    refine gr_rd rfl rfl rfl (rd_conv8_32 Tryd.underlying5 Tryd.underlying135 rfl) ?_
    refine gr_rd rfl rfl rfl (rd_shl32 (k := 16) (by decide) rfl rfl rfl) ?_
    (first | refine gr_rd rfl rfl rfl (rd_or32 rfl rfl) ?_ | refine gr_rd rfl rfl rfl (rd_bits (by simp) rfl rfl rfl) ?_)
    refine gm rfl rfl rfl rfl ?_
    refine gm rfl rfl rfl rfl ?_
    (first | refine gr_rd rfl rfl rfl (rd_mul rfl rfl (IntWalk.i64_in _ (by omega))) ?_ | refine gr_rd rfl rfl rfl (rd_mul rfl rfl rfl) ?_)
    (first | refine gr_rd rfl rfl rfl (rd_add rfl rfl (IntWalk.i64_in _ (by omega))) ?_ | refine gr_rd rfl rfl rfl (rd_add rfl rfl rfl) ?_)
    refine gr_rd rfl rfl rfl (rd_indexS Tryd.underlying117 Tryd.sizeOf5 rfl rfl rfl (by omega) (by omega)) ?_
    refine gr_rd rfl rfl rfl (rd_load1 Tryd.to5 rfl hcp (byte_at hs (j := 4 * k + 2) (by omega) (by omega))) ?_
    refine gr_rd rfl rfl rfl (rd_conv8_32 Tryd.underlying5 Tryd.underlying135 rfl) ?_
    refine gr_rd rfl rfl rfl (rd_shl32 (k := 8) (by decide) rfl rfl rfl) ?_
    (first | refine gr_rd rfl rfl rfl (rd_or32 rfl rfl) ?_ | refine gr_rd rfl rfl rfl (rd_bits (by simp) rfl rfl rfl) ?_)
    refine gm rfl rfl rfl rfl ?_
    refine gm rfl rfl rfl rfl ?_
    (first | refine gr_rd rfl rfl rfl (rd_mul rfl rfl (IntWalk.i64_in _ (by omega))) ?_ | refine gr_rd rfl rfl rfl (rd_mul rfl rfl rfl) ?_)
    (first | refine gr_rd rfl rfl rfl (rd_add rfl rfl (IntWalk.i64_in _ (by omega))) ?_ | refine gr_rd rfl rfl rfl (rd_add rfl rfl rfl) ?_)
    refine gr_rd rfl rfl rfl (rd_indexS Tryd.underlying117 Tryd.sizeOf5 rfl rfl rfl (by omega) (by omega)) ?_
    refine gr_rd rfl rfl rfl (rd_load1 Tryd.to5 rfl hcp (byte_at hs (j := 4 * k + 3) (by omega) (by omega))) ?_
    refine gr_rd rfl rfl rfl (rd_conv8_32 Tryd.underlying5 Tryd.underlying135 rfl) ?_
    (first | refine gr_rd rfl rfl rfl (rd_or32 rfl rfl) ?_ | refine gr_rd rfl rfl rfl (rd_bits (by simp) rfl rfl rfl) ?_)
    refine gr_rd rfl rfl rfl (rd_indexA Tryd.underlying167 Tryd.sizeOf135 rfl rfl (by omega) (by omega)) ?_
    refine gr_fin0 rfl rfl (nx_store (vs := [_]) Tryd.sizeOf135 rfl rfl rfl rfl Upd.here (words_fit (by omega) _) (oneCells_of_all rfl)) ?_; rintro _ _ _ _ ⟨rfl, rfl, rfl⟩
    refine gr_nil (gk_then ?_)
    refine gc_exit ?_
    refine gk_exit_then ?_
    refine gk_here ?_
    refine gk_then ?_
    refine gc_seqr [(.mv, 0), (.mv, 1)] rfl ?_
    (first | refine gr_rd rfl rfl rfl (rd_add rfl rfl (IntWalk.i64_in _ (by omega))) ?_ | refine gr_rd rfl rfl rfl (rd_add rfl rfl rfl) ?_)
    refine gm rfl rfl rfl rfl ?_
    refine gr_nil ?_
    refine gk_round (k + 1) (by omega) ⟨rfl, ?_, by omega⟩ sbs
    first
      | rw [words_next hk64 (by rw [if_pos hk16]; rfl)]
      | rw [words_next hk64 (by rw [if_neg hk16]; rfl)]
   ·have hk16 : ¬ k < 16 := by simp at hc1; omega
    refine gc_skip ?_
    refine gk_then ?_
    refine gc_seq ?_
    refine gc_draw Tryd.mixed [(.mv, 0), (.mv, 1), (.mv, 2), (.mv, 3), (.mv, 4), (.mv, 5), (.mv, 6), (.mv, 7), (.mv, 8), (.mv, 9)] (by decide +kernel) _ (List.Sublist.refl _) ?_
    refine gm rfl rfl rfl rfl ?_
    (first | refine gr_rd rfl rfl rfl (rd_sub rfl rfl (IntWalk.i64_in _ (by omega))) ?_ | refine gr_rd rfl rfl rfl (rd_sub rfl rfl rfl) ?_)
    refine gr_rd rfl rfl rfl (rd_indexA Tryd.underlying167 Tryd.sizeOf135 rfl rfl (by omega) (by omega)) ?_
    refine gr_rd rfl rfl rfl (rd_load1 Tryd.to135 rfl ⟨_, _, .inr List.mem_cons_self⟩ (words_at (j := k - 15) (by omega) (by omega))) ?_
    refine gm rfl rfl rfl rfl ?_
    (first | refine gr_rd rfl rfl rfl (rd_sub rfl rfl (IntWalk.i64_in _ (by omega))) ?_ | refine gr_rd rfl rfl rfl (rd_sub rfl rfl rfl) ?_)
    refine gr_rd rfl rfl rfl (rd_indexA Tryd.underlying167 Tryd.sizeOf135 rfl rfl (by omega) (by omega)) ?_
    refine gr_rd rfl rfl rfl (rd_load1 Tryd.to135 rfl ⟨_, _, .inr List.mem_cons_self⟩ (words_at (j := k - 2) (by omega) (by omega))) ?_
    refine ga rfl rfl rfl rfl ?_
    refine ga rfl rfl rfl rfl ?_
    refine gr_nil (gk_then ?_)
    refine gc_draw Tryd.mixed [(.mv, 0), (.mv, 1), (.mv, 2), (.mv, 3), (.mv, 4), (.mv, 5), (.mv, 6), (.mv, 7), (.mv, 8), (.mv, 9), (.mv, 10), (.mv, 12), (.mv, 15), (.mv, 16), (.mv, 19), (.mv, 21), (.mv, 24), (.mv, 25), (.nm, 11), (.nm, 13), (.mv, 14), (.mv, 17), (.mv, 18), (.nm, 20), (.nm, 22), (.mv, 23), (.mv, 26), (.mv, 27), (.mv, 28), (.fin, 29)] (by decide +kernel) _ (List.Sublist.refl _) ?_
    refine gm rfl rfl rfl rfl ?_
    refine gm rfl rfl rfl rfl ?_
    (first | refine gr_rd rfl rfl rfl (rd_sub rfl rfl (IntWalk.i64_in _ (by omega))) ?_ | refine gr_rd rfl rfl rfl (rd_sub rfl rfl rfl) ?_)
    refine gr_rd rfl rfl rfl (rd_indexA Tryd.underlying167 Tryd.sizeOf135 rfl rfl (by omega) (by omega)) ?_
    refine gr_rd rfl rfl rfl (rd_load1 Tryd.to135 rfl ⟨_, _, .inr List.mem_cons_self⟩ (words_at (j := k - 16) (by omega) (by omega))) ?_
    refine gm rfl rfl rfl rfl ?_
    (first | refine gr_rd rfl rfl rfl (rd_sub rfl rfl (IntWalk.i64_in _ (by omega))) ?_ | refine gr_rd rfl rfl rfl (rd_sub rfl rfl rfl) ?_)
    refine gr_rd rfl rfl rfl (rd_indexA Tryd.underlying167 Tryd.sizeOf135 rfl rfl (by omega) (by omega)) ?_
    refine gr_rd rfl rfl rfl (rd_load1 Tryd.to135 rfl ⟨_, _, .inr List.mem_cons_self⟩ (words_at (j := k - 7) (by omega) (by omega))) ?_
    (first | refine gr_rd rfl rfl rfl (rd_add32 rfl rfl) ?_ | refine gr_rd rfl rfl rfl (rd_add rfl rfl rfl) ?_)
    refine gm rfl rfl rfl rfl ?_
    refine gm rfl rfl rfl rfl ?_
    refine gm rfl rfl rfl rfl ?_
    refine gr_rd rfl rfl rfl (rd_shr32 (k := 3) (by decide) rfl rfl rfl) ?_
    refine gm rfl rfl rfl rfl ?_
    refine gm rfl rfl rfl rfl ?_
    refine gm rfl rfl rfl rfl ?_
    refine gr_rd rfl rfl rfl (rd_shr32 (k := 10) (by decide) rfl rfl rfl) ?_
    refine gr_nx rfl rfl rfl (nx_call Tryd.en129 rfl (rot_cc _ _ _ 7 (-7) rfl (by decide) (by decide))) ?_; rintro v74 H' L' hle ⟨rfl, rfl, rfl⟩; refine ⟨kp, ?_⟩
    refine gr_nx rfl rfl rfl (nx_call Tryd.en129 rfl (rot_cc _ _ _ 18 (-18) rfl (by decide) (by decide))) ?_; rintro v76 H' L' hle ⟨rfl, rfl, rfl⟩; refine ⟨kp, ?_⟩
    (first | refine gr_rd rfl rfl rfl (rd_xor32 rfl rfl) ?_ | refine gr_rd rfl rfl rfl (rd_bits (by simp) rfl rfl rfl) ?_)
    (first | refine gr_rd rfl rfl rfl (rd_xor32 rfl rfl) ?_ | refine gr_rd rfl rfl rfl (rd_bits (by simp) rfl rfl rfl) ?_)
    (first | refine gr_rd rfl rfl rfl (rd_add32 rfl rfl) ?_ | refine gr_rd rfl rfl rfl (rd_add rfl rfl rfl) ?_)
    refine gr_nx rfl rfl rfl (nx_call Tryd.en129 rfl (rot_cc _ _ _ 17 (-17) rfl (by decide) (by decide))) ?_; rintro v83 H' L' hle ⟨rfl, rfl, rfl⟩; refine ⟨kp, ?_⟩
    refine gr_nx rfl rfl rfl (nx_call Tryd.en129 rfl (rot_cc _ _ _ 19 (-19) rfl (by decide) (by decide))) ?_; rintro v85 H' L' hle ⟨rfl, rfl, rfl⟩; refine ⟨kp, ?_⟩
    (first | refine gr_rd rfl rfl rfl (rd_xor32 rfl rfl) ?_ | refine gr_rd rfl rfl rfl (rd_bits (by simp) rfl rfl rfl) ?_)
    (first | refine gr_rd rfl rfl rfl (rd_xor32 rfl rfl) ?_ | refine gr_rd rfl rfl rfl (rd_bits (by simp) rfl rfl rfl) ?_)
    (first | refine gr_rd rfl rfl rfl (rd_add32 rfl rfl) ?_ | refine gr_rd rfl rfl rfl (rd_add rfl rfl rfl) ?_)
    refine gr_rd rfl rfl rfl (rd_indexA Tryd.underlying167 Tryd.sizeOf135 rfl rfl (by omega) (by omega)) ?_
    refine gr_fin0 rfl rfl (nx_store (vs := [_]) Tryd.sizeOf135 rfl rfl rfl rfl Upd.here (words_fit (by omega) _) (oneCells_of_all rfl)) ?_; rintro _ _ _ _ ⟨rfl, rfl, rfl⟩
    refine gr_nil ?_
    refine gk_inBlock ?_
    refine gk_then ?_
    refine gc_seqr [(.mv, 0), (.mv, 1)] rfl ?_
    (first | refine gr_rd rfl rfl rfl (rd_add rfl rfl (IntWalk.i64_in _ (by omega))) ?_ | refine gr_rd rfl rfl rfl (rd_add rfl rfl rfl) ?_)
    refine gm rfl rfl rfl rfl ?_
    refine gr_nil ?_
    refine gk_round (k + 1) (by omega) ⟨rfl, ?_, by omega⟩ sbs
    first
      | rw [words_next hk64 (by rw [if_pos hk16]; rfl)]
      | rw [words_next hk64 (by rw [if_neg hk16]; rfl)]
  ·have hk2 : k = 64 := by simp at hc0; omega
   subst hk2
   have hW0 : wordsTo p 64 ++ List.replicate (64 - 64) 0 = wordsTo p 64 := List.append_nil _
   have hWl : (wordsTo p 64).length = 64 := wordsTo_length p 64
   rw [hW0]
   clear hW0
   generalize hW : wordsTo p 64 = W at hWl ⊢
   refine gc_exit ?_
   refine gk_exit_then ?_
   refine gk_exit_then ?_
   refine gk_here ?_
   refine gk_then ?_
   refine gc_seq (gc_seqr [(.mv, 0), (.mv, 1), (.mv, 2), (.nm, 3), (.nm, 4)] rfl ?_)
   refine gm rfl rfl rfl rfl ?_
   refine gr_rd rfl rfl rfl (rd_nilCheck rfl) ?_
   refine gr_rd rfl rfl rfl (rd_loadA Tryd.ta152 rfl ⟨_, _, .inr (List.mem_cons_of_mem _ List.mem_cons_self)⟩ (Seg.all _) (by rw [List.length_map, hh])) ?_
   refine gr_nx rfl rfl rfl (nx_alloc Tryd.zeroValue152 rfl) ?_; rintro _ _ _ _ ⟨b8, rfl, rfl, rfl⟩; refine ⟨trivial, ?_⟩
   refine gr_nx0 rfl rfl (nx_store Tryd.sizeOf152 rfl rfl rfl (by rw [Value.cells]; simp [hh]) Upd.here (by simp [Value.cells, hh]) (oneCells_w32 h)) ?_; rintro _ _ _ _ ⟨rfl, rfl, rfl⟩; refine ⟨trivial, ?_⟩
   refine gr_nil (gk_then ?_)
   refine gc_seq ?_
   refine gc_seq (gc_seqr [(.mv, 0)] rfl ?_)
   refine gm rfl rfl rfl rfl ?_
   refine gr_nil (gk_then ?_)
   refine gc_block ?_
   refine gc_loop (fun k : Nat => [(0, pt b 0), (4, pt b4 0), (8, pt b8 0), (96, i64 k)]) (fun k H1 L1 => H = H1 ∧ (b8, .cells ((roundsTo h W k).map w32).toArray 152 (0, 0)) :: (b4, .cells (W.map w32).toArray 167 (0, 0)) :: (b, .cells (h.map w32).toArray T (0, 0)) :: L = L1 ∧ k ≤ 64) (fun k => 64 - k) (0) ?_ sbs ?_
   ·refine ⟨rfl, ?_, Nat.zero_le _⟩
    subst he
    rfl
   ·rintro k H1 L1 ⟨rfl, rfl, hk⟩
    refine gc_seq (gc_seqr [(.mv, 0)] rfl ?_)
    refine gr_rd rfl rfl rfl (rd_lss rfl rfl) ?_
    refine gr_nil (gk_then ?_)
    refine gc_seq ?_
    refine gc_cond rfl (fun hc2 => ?_) (fun hc2 => ?_)
    ·have hk64 : k < 64 := by simp at hc2; omega
     obtain ⟨a0, a1, a2, a3, a4, a5, a6, a7, hr⟩ := list8 (roundsTo_length h W hh k)
     rw [hr]
     refine gc_skip ?_
     refine gk_then ?_
     refine gc_seq ?_
     refine gc_block ?_
     refine gc_seq (gc_seqr [(.mv, 0), (.mv, 1)] rfl ?_)
     refine gm rfl rfl rfl rfl ?_
     refine ga rfl rfl rfl rfl ?_
     refine gr_nil (gk_then ?_)
     refine gc_seq ?_
     refine gc_draw Tryd.mixed [(.mv, 0), (.mv, 1), (.mv, 2), (.mv, 3), (.mv, 4), (.mv, 5)] (by decide +kernel) _ (List.Sublist.refl _) ?_
     refine gr_rd rfl rfl rfl (rd_indexA Tryd.underlying152 Tryd.sizeOf135 rfl rfl (by omega) (by omega)) ?_
     refine gr_rd rfl rfl rfl (rd_load1 Tryd.to135 rfl cel at1) ?_
     refine gr_rd rfl rfl rfl (rd_indexA Tryd.underlying152 Tryd.sizeOf135 rfl rfl (by omega) (by omega)) ?_
     refine gr_rd rfl rfl rfl (rd_load1 Tryd.to135 rfl cel at1) ?_
     refine ga rfl rfl rfl rfl ?_
     refine ga rfl rfl rfl rfl ?_
     refine gr_nil (gk_then ?_)
     refine gc_seq ?_
     refine gc_draw Tryd.mixed [(.mv, 0), (.mv, 1), (.mv, 2), (.mv, 4), (.mv, 7), (.mv, 11), (.mv, 12), (.mv, 13), (.mv, 14), (.mv, 15), (.mv, 16), (.mv, 17), (.mv, 18), (.mv, 19), (.mv, 20), (.mv, 22), (.mv, 23), (.mv, 24), (.mv, 26), (.mv, 27), (.mv, 28), (.nm, 3), (.nm, 5), (.mv, 6), (.nm, 8), (.mv, 9), (.mv, 10), (.mv, 21), (.mv, 25), (.mv, 29), (.mv, 30)] (by decide +kernel) _ (List.Sublist.refl _) ?_
     refine gr_rd rfl rfl rfl (rd_indexA Tryd.underlying152 Tryd.sizeOf135 rfl rfl (by omega) (by omega)) ?_
     refine gr_rd rfl rfl rfl (rd_load1 Tryd.to135 rfl cel at1) ?_
     refine gm rfl rfl rfl rfl ?_
     refine gm rfl rfl rfl rfl ?_
     refine gm rfl rfl rfl rfl ?_
     refine gm rfl rfl rfl rfl ?_
     refine gr_rd rfl rfl rfl (rd_indexA Tryd.underlying152 Tryd.sizeOf135 rfl rfl (by omega) (by omega)) ?_
     refine gr_rd rfl rfl rfl (rd_load1 Tryd.to135 rfl cel at1) ?_
     (first | refine gr_rd rfl rfl rfl (rd_and32 rfl rfl) ?_ | refine gr_rd rfl rfl rfl (rd_bits (by simp) rfl rfl rfl) ?_)
     refine gm rfl rfl rfl rfl ?_
     refine gr_rd rfl rfl rfl (rd_not32 rfl) ?_
     refine gr_rd rfl rfl rfl (rd_indexA Tryd.underlying152 Tryd.sizeOf135 rfl rfl (by omega) (by omega)) ?_
     refine gr_rd rfl rfl rfl (rd_load1 Tryd.to135 rfl cel at1) ?_
     (first | refine gr_rd rfl rfl rfl (rd_and32 rfl rfl) ?_ | refine gr_rd rfl rfl rfl (rd_bits (by simp) rfl rfl rfl) ?_)
     (first | refine gr_rd rfl rfl rfl (rd_xor32 rfl rfl) ?_ | refine gr_rd rfl rfl rfl (rd_bits (by simp) rfl rfl rfl) ?_)
     refine gm rfl rfl rfl rfl ?_
     refine gr_rd rfl rfl rfl (rd_indexA Tryd.underlying167 Tryd.sizeOf135 rfl rfl (by omega) (by omega)) ?_
     refine gr_rd rfl rfl rfl (rd_load1 Tryd.to135 rfl ⟨_, _, .inl hG⟩ (w32_at2 roundK (j := k) hk64 rfl)) ?_
     refine gm rfl rfl rfl rfl ?_
     refine gr_rd rfl rfl rfl (rd_indexA Tryd.underlying167 Tryd.sizeOf135 rfl rfl (by omega) (by omega)) ?_
     refine gr_rd rfl rfl rfl (rd_load1 Tryd.to135 rfl ⟨_, _, .inr (List.mem_cons_of_mem _ List.mem_cons_self)⟩ (w32_at2 W (j := k) (by omega) rfl)) ?_
     refine gr_nx rfl rfl rfl (nx_call Tryd.en129 rfl (rot_cc _ _ _ 6 (-6) rfl (by decide) (by decide))) ?_; rintro v106 H' L' hle ⟨rfl, rfl, rfl⟩; refine ⟨kp, ?_⟩
     refine gr_nx rfl rfl rfl (nx_call Tryd.en129 rfl (rot_cc _ _ _ 11 (-11) rfl (by decide) (by decide))) ?_; rintro v108 H' L' hle ⟨rfl, rfl, rfl⟩; refine ⟨kp, ?_⟩
     (first | refine gr_rd rfl rfl rfl (rd_xor32 rfl rfl) ?_ | refine gr_rd rfl rfl rfl (rd_bits (by simp) rfl rfl rfl) ?_)
     refine gr_nx rfl rfl rfl (nx_call Tryd.en129 rfl (rot_cc _ _ _ 25 (-25) rfl (by decide) (by decide))) ?_; rintro v111 H' L' hle ⟨rfl, rfl, rfl⟩; refine ⟨kp, ?_⟩
     (first | refine gr_rd rfl rfl rfl (rd_xor32 rfl rfl) ?_ | refine gr_rd rfl rfl rfl (rd_bits (by simp) rfl rfl rfl) ?_)
     (first | refine gr_rd rfl rfl rfl (rd_add32 rfl rfl) ?_ | refine gr_rd rfl rfl rfl (rd_add rfl rfl rfl) ?_)
     (first | refine gr_rd rfl rfl rfl (rd_add32 rfl rfl) ?_ | refine gr_rd rfl rfl rfl (rd_add rfl rfl rfl) ?_)
     (first | refine gr_rd rfl rfl rfl (rd_add32 rfl rfl) ?_ | refine gr_rd rfl rfl rfl (rd_add rfl rfl rfl) ?_)
     (first | refine gr_rd rfl rfl rfl (rd_add32 rfl rfl) ?_ | refine gr_rd rfl rfl rfl (rd_add rfl rfl rfl) ?_)
     refine ga rfl rfl rfl rfl ?_
     refine gr_nil (gk_then ?_)
     refine gc_seq ?_
     refine gc_draw Tryd.mixed [(.mv, 0), (.mv, 2), (.mv, 5), (.mv, 8), (.mv, 9), (.mv, 10), (.mv, 11), (.mv, 12), (.mv, 13), (.mv, 14), (.mv, 15), (.mv, 16), (.mv, 17), (.mv, 18), (.mv, 19), (.mv, 20), (.mv, 21), (.mv, 22), (.nm, 1), (.nm, 3), (.mv, 4), (.nm, 6), (.mv, 7), (.mv, 23), (.mv, 24)] (by decide +kernel) _ (List.Sublist.refl _) ?_
     refine gm rfl rfl rfl rfl ?_
     refine gm rfl rfl rfl rfl ?_
     refine gm rfl rfl rfl rfl ?_
     refine gm rfl rfl rfl rfl ?_
     refine gr_rd rfl rfl rfl (rd_indexA Tryd.underlying152 Tryd.sizeOf135 rfl rfl (by omega) (by omega)) ?_
     refine gr_rd rfl rfl rfl (rd_load1 Tryd.to135 rfl cel at1) ?_
     (first | refine gr_rd rfl rfl rfl (rd_and32 rfl rfl) ?_ | refine gr_rd rfl rfl rfl (rd_bits (by simp) rfl rfl rfl) ?_)
     refine gm rfl rfl rfl rfl ?_
     refine gr_rd rfl rfl rfl (rd_indexA Tryd.underlying152 Tryd.sizeOf135 rfl rfl (by omega) (by omega)) ?_
     refine gr_rd rfl rfl rfl (rd_load1 Tryd.to135 rfl cel at1) ?_
     (first | refine gr_rd rfl rfl rfl (rd_and32 rfl rfl) ?_ | refine gr_rd rfl rfl rfl (rd_bits (by simp) rfl rfl rfl) ?_)
     (first | refine gr_rd rfl rfl rfl (rd_xor32 rfl rfl) ?_ | refine gr_rd rfl rfl rfl (rd_bits (by simp) rfl rfl rfl) ?_)
     refine gr_rd rfl rfl rfl (rd_indexA Tryd.underlying152 Tryd.sizeOf135 rfl rfl (by omega) (by omega)) ?_
     refine gr_rd rfl rfl rfl (rd_load1 Tryd.to135 rfl cel at1) ?_
     refine gr_rd rfl rfl rfl (rd_indexA Tryd.underlying152 Tryd.sizeOf135 rfl rfl (by omega) (by omega)) ?_
     refine gr_rd rfl rfl rfl (rd_load1 Tryd.to135 rfl cel at1) ?_
     (first | refine gr_rd rfl rfl rfl (rd_and32 rfl rfl) ?_ | refine gr_rd rfl rfl rfl (rd_bits (by simp) rfl rfl rfl) ?_)
     (first | refine gr_rd rfl rfl rfl (rd_xor32 rfl rfl) ?_ | refine gr_rd rfl rfl rfl (rd_bits (by simp) rfl rfl rfl) ?_)
     refine gr_nx rfl rfl rfl (nx_call Tryd.en129 rfl (rot_cc _ _ _ 2 (-2) rfl (by decide) (by decide))) ?_; rintro v134 H' L' hle ⟨rfl, rfl, rfl⟩; refine ⟨kp, ?_⟩
     refine gr_nx rfl rfl rfl (nx_call Tryd.en129 rfl (rot_cc _ _ _ 13 (-13) rfl (by decide) (by decide))) ?_; rintro v136 H' L' hle ⟨rfl, rfl, rfl⟩; refine ⟨kp, ?_⟩
     (first | refine gr_rd rfl rfl rfl (rd_xor32 rfl rfl) ?_ | refine gr_rd rfl rfl rfl (rd_bits (by simp) rfl rfl rfl) ?_)
     refine gr_nx rfl rfl rfl (nx_call Tryd.en129 rfl (rot_cc _ _ _ 22 (-22) rfl (by decide) (by decide))) ?_; rintro v139 H' L' hle ⟨rfl, rfl, rfl⟩; refine ⟨kp, ?_⟩
     (first | refine gr_rd rfl rfl rfl (rd_xor32 rfl rfl) ?_ | refine gr_rd rfl rfl rfl (rd_bits (by simp) rfl rfl rfl) ?_)
     (first | refine gr_rd rfl rfl rfl (rd_add32 rfl rfl) ?_ | refine gr_rd rfl rfl rfl (rd_add rfl rfl rfl) ?_)
     refine ga rfl rfl rfl rfl ?_
     refine gr_nil (gk_then ?_)
     refine gc_seqr [(.mv, 0), (.mv, 1), (.mv, 2), (.mv, 3), (.mv, 4), (.mv, 5), (.mv, 6), (.mv, 7), (.mv, 8), (.mv, 9), (.mv, 10), (.mv, 11), (.mv, 12), (.mv, 13), (.mv, 14), (.mv, 15), (.mv, 16), (.mv, 17), (.nm, 18)] rfl ?_
     refine gm rfl rfl rfl rfl ?_
     refine gm rfl rfl rfl rfl ?_
     (first | refine gr_rd rfl rfl rfl (rd_add32 rfl rfl) ?_ | refine gr_rd rfl rfl rfl (rd_add rfl rfl rfl) ?_)
     refine gm rfl rfl rfl rfl ?_
     refine gr_rd rfl rfl rfl (rd_indexA Tryd.underlying152 Tryd.sizeOf135 rfl rfl (by omega) (by omega)) ?_
     refine gr_rd rfl rfl rfl (rd_load1 Tryd.to135 rfl cel at1) ?_
     refine gr_rd rfl rfl rfl (rd_indexA Tryd.underlying152 Tryd.sizeOf135 rfl rfl (by omega) (by omega)) ?_
     refine gr_rd rfl rfl rfl (rd_load1 Tryd.to135 rfl cel at1) ?_
     refine gr_rd rfl rfl rfl (rd_indexA Tryd.underlying152 Tryd.sizeOf135 rfl rfl (by omega) (by omega)) ?_
     refine gr_rd rfl rfl rfl (rd_load1 Tryd.to135 rfl cel at1) ?_
     refine gm rfl rfl rfl rfl ?_
     (first | refine gr_rd rfl rfl rfl (rd_add32 rfl rfl) ?_ | refine gr_rd rfl rfl rfl (rd_add rfl rfl rfl) ?_)
     refine gm rfl rfl rfl rfl ?_
     refine gr_rd rfl rfl rfl (rd_indexA Tryd.underlying152 Tryd.sizeOf135 rfl rfl (by omega) (by omega)) ?_
     refine gr_rd rfl rfl rfl (rd_load1 Tryd.to135 rfl cel at1) ?_
     refine gr_rd rfl rfl rfl (rd_indexA Tryd.underlying152 Tryd.sizeOf135 rfl rfl (by omega) (by omega)) ?_
     refine gr_rd rfl rfl rfl (rd_load1 Tryd.to135 rfl cel at1) ?_
     refine gr_rd rfl rfl rfl (rd_build (buildT_array Tryd.underlying152 Tryd.zeroValue152 rfl Tryd.sizeOf135) rfl (fill_flat 1 [_, _, _, _, _, _, _, _] 0 [] _ rfl rfl (by simp [Value.cells]))) ?_
     refine gr_nx0 rfl rfl (nx_store Tryd.sizeOf152 rfl rfl rfl rfl Upd.here (by simp [Value.cells]) (oneCells_of_all rfl)) ?_; rintro _ _ _ _ ⟨rfl, rfl, rfl⟩; refine ⟨trivial, ?_⟩
     refine gr_nil ?_
     refine gk_inBlock ?_
     refine gk_then ?_
     refine gc_seqr [(.mv, 0), (.mv, 1)] rfl ?_
     (first | refine gr_rd rfl rfl rfl (rd_add rfl rfl (IntWalk.i64_in _ (by omega))) ?_ | refine gr_rd rfl rfl rfl (rd_add rfl rfl rfl) ?_)
     refine gm rfl rfl rfl rfl ?_
     refine gr_nil ?_
     refine gk_round (k + 1) (by omega) ⟨rfl, ?_, by omega⟩ sbs
     rw [roundsTo, hr]
     rfl
    ·have hk2 : k = 64 := by simp at hc2; omega
     subst hk2
     have hSl : h.length = (roundsTo h W 64).length := by rw [roundsTo_length h W hh, hh]
     have hmix : mixH h p = List.zipWith (· + ·) h (roundsTo h W 64) := by rw [mixH, hW]
     generalize hS : roundsTo h W 64 = S at hSl hmix ⊢
     refine gc_exit ?_
     refine gk_exit_then ?_
     refine gk_exit_then ?_
     refine gk_here ?_
     refine gk_then ?_
     refine gc_seq (gc_seqr [(.mv, 0)] rfl ?_)
     refine gm rfl rfl rfl rfl ?_
     refine gr_nil (gk_then ?_)
     refine gc_block ?_
     refine gc_loop (fun k : Nat => [(0, pt b 0), (8, pt b8 0), (176, i64 k)]) (fun k H1 L1 => H = H1 ∧ (b8, .cells (S.map w32).toArray 152 (0, 0)) :: (b4, .cells (W.map w32).toArray 167 (0, 0)) :: (b, .cells ((addTo h S k).map w32).toArray T (0, 0)) :: L = L1 ∧ k ≤ 8) (fun k => 8 - k) (0) ?_ sbs ?_
     ·exact ⟨rfl, rfl, Nat.zero_le _⟩
     ·rintro k H1 L1 ⟨rfl, rfl, hk⟩
      refine gc_seq (gc_seqr [(.mv, 0)] rfl ?_)
      refine gr_rd rfl rfl rfl (rd_lss rfl rfl) ?_
      refine gr_nil (gk_then ?_)
      refine gc_seq ?_
      refine gc_cond rfl (fun hc3 => ?_) (fun hc3 => ?_)
      ·have hk8 : k < 8 := by simp at hc3; omega
       refine gc_skip ?_
       refine gk_then ?_
       refine gc_seq ?_
       refine gc_block ?_
       refine gc_seq (gc_seqr [(.mv, 0), (.mv, 1)] rfl ?_)
       refine gm rfl rfl rfl rfl ?_
       refine ga rfl rfl rfl rfl ?_
       refine gr_nil (gk_then ?_)
       refine gc_draw Tryd.mixed [(.mv, 0), (.mv, 1), (.mv, 2), (.mv, 3), (.mv, 4), (.mv, 5), (.mv, 6), (.mv, 7), (.mv, 8), (.mv, 9), (.mv, 10), (.fin, 11)] (by decide +kernel) _ (List.Sublist.refl _) ?_
       refine gm rfl rfl rfl rfl ?_
       refine gm rfl rfl rfl rfl ?_
       refine gr_rd rfl rfl rfl (rd_nilCheck rfl) ?_
       refine gr_rd rfl rfl rfl (rd_indexA Tryd.underlying152 Tryd.sizeOf135 rfl rfl (by omega) (by omega)) ?_
       refine gr_rd rfl rfl rfl (rd_load1 Tryd.to135 rfl ⟨_, _, .inr (List.mem_cons_of_mem _ (List.mem_cons_of_mem _ List.mem_cons_self))⟩ (w32_at2 (addTo h S k) (j := k) (by rw [addTo_length hSl]; omega) rfl)) ?_
       refine gm rfl rfl rfl rfl ?_
       refine gr_rd rfl rfl rfl (rd_indexA Tryd.underlying152 Tryd.sizeOf135 rfl rfl (by omega) (by omega)) ?_
       refine gr_rd rfl rfl rfl (rd_load1 Tryd.to135 rfl ⟨_, _, .inr List.mem_cons_self⟩ (w32_at2 S (j := k) (by omega) rfl)) ?_
       (first | refine gr_rd rfl rfl rfl (rd_add32 rfl rfl) ?_ | refine gr_rd rfl rfl rfl (rd_add rfl rfl rfl) ?_)
       refine gr_rd rfl rfl rfl (rd_nilCheck rfl) ?_
       refine gr_rd rfl rfl rfl (rd_indexA Tryd.underlying152 Tryd.sizeOf135 rfl rfl (by omega) (by omega)) ?_
       refine gr_fin0 rfl rfl (nx_store (vs := [_]) Tryd.sizeOf135 rfl rfl rfl rfl (Upd.there (Upd.there Upd.here)) (by simp [addTo_length hSl]; omega) (oneCells_of_all rfl)) ?_; rintro _ _ _ _ ⟨rfl, rfl, rfl⟩
       refine gr_nil ?_
       refine gk_inBlock ?_
       refine gk_then ?_
       refine gc_seqr [(.mv, 0), (.mv, 1)] rfl ?_
       (first | refine gr_rd rfl rfl rfl (rd_add rfl rfl (IntWalk.i64_in _ (by omega))) ?_ | refine gr_rd rfl rfl rfl (rd_add rfl rfl rfl) ?_)
       refine gm rfl rfl rfl rfl ?_
       refine gr_nil ?_
       refine gk_round (k + 1) (by omega) ⟨rfl, ?_, by omega⟩ sbs
       rw [addTo_at hSl (by omega), addTo_next hSl (by omega)]
      ·have hk2 : k = 8 := by simp at hc3; omega
       subst hk2
       have hall : addTo h S 8 = mixH h p := by rw [hmix, ← hh]; exact addTo_all hSl
       rw [hall]
       refine gc_exit ?_
       refine gk_exit_then ?_
       refine gk_exit_then ?_
       refine gk_here ?_
       refine gk_result (L' := (b, .cells ((mixH h p).map w32).toArray T (0, 0)) :: L) (.inr rfl) _ (res0 rfl) sbl gle ?_
       exact ⟨rfl, rfl⟩
end Go.Proofs.YtfhldfjknagidaaDoor

/-
  Walks: digests of byte strings.
-/
set_option linter.unusedSimpArgs false
set_option linter.unusedVariables false
set_option linter.unnecessarySimpa false
set_option linter.all false
namespace Go.Proofs.YtfhldfjknagidaaDoor
open Go.VK Go.Tr
set_option maxRecDepth 20000
/-- The given tables stand where they were laid. -/
structure Glob (H : Gh) : Prop where
  start : ∃ T z, H.imm 0 = some (.cells (startH.map w32).toArray T z)
  round : ∃ T z, H.imm 2 = some (.cells (roundK.map w32).toArray T z)
theorem Glob.mono {H H' : Gh} (h : Glob H) (hle : H ≤ H') : Glob H' :=
  ⟨let ⟨T, z, e⟩ := h.start; ⟨T, z, hle.imm _ _ e⟩, let ⟨T, z, e⟩ := h.round; ⟨T, z, hle.imm _ _ e⟩⟩
/-- How many bytes are lacking up to 56 behind a multiple of 64. -/
def gap (n : Nat) : Nat := (120 - n % 64) % 64
theorem gap_zero {n : Nat} (h : n % 64 = 56) : gap n = 0 := by unfold gap; omega
theorem gap_step {n : Nat} (h : n % 64 ≠ 56) : gap (n + 1) + 1 = gap n := by unfold gap; omega
theorem gap_lt (n : Nat) : gap n < 64 := Nat.mod_lt _ (by decide)
theorem padTo_done {k : Nat} {b : Bs} (h : b.length % 64 = 56) : padTo k b = b := by
  cases k with
  | zero => rfl
  | succ k => rw [padTo, if_pos h]
theorem padTo_step {k : Nat} {b : Bs} (h : b.length % 64 ≠ 56) : padTo (k + 1) b = padTo k (b ++ [0]) := by rw [padTo, if_neg h]
theorem padTo_mod : ∀ (k : Nat) (b : Bs), gap b.length ≤ k → (padTo k b).length % 64 = 56
  | 0, b, h => by rw [padTo]; unfold gap at h; omega
  | k + 1, b, h => by
    by_cases e : b.length % 64 = 56
    · rw [padTo_done e]; exact e
    · rw [padTo_step e]; refine padTo_mod k _ ?_; have := gap_step e; rw [List.length_append, List.length_singleton]; omega
theorem padTo_le : ∀ (k : Nat) (b : Bs), (padTo k b).length ≤ b.length + k
  | 0, b => Nat.le_refl _
  | k + 1, b => by
    rw [padTo]
    split
    · omega
    · have := padTo_le k (b ++ [0]); rw [List.length_append, List.length_singleton] at this; omega
theorem lenB_length (n : Nat) : (lenB n).length = 8 := by simp [lenB]
theorem padded_mod (s : Bs) : (padded s).length % 64 = 0 := by
  have := padTo_mod 64 (s ++ [128]) (Nat.le_of_lt (gap_lt _))
  rw [padded, List.length_append, lenB_length]; omega
theorem padded_le (s : Bs) : (padded s).length ≤ s.length + 73 := by
  have := padTo_le 64 (s ++ [128])
  rw [List.length_append, List.length_singleton] at this
  rw [padded, List.length_append, lenB_length]; omega
theorem lenB_take {n j : Nat} (h : j < 8) : (lenB n).take (j + 1) = (lenB n).take j ++ [UInt8.ofNat (n * 8 % 2 ^ 64 / 2 ^ (8 * (7 - j)))] := by
  rw [List.take_add_one]; congr 1
  simp [lenB, h]
theorem blocksH_nil (k : Nat) (h : List UInt32) : blocksH k h [] = h := by cases k <;> simp [blocksH]
theorem blocksH_step {k : Nat} {h : List UInt32} {b : Bs} (hb : b ≠ []) : blocksH (k + 1) h b = blocksH k (mixH h (b.take 64)) (b.drop 64) := by
  rw [blocksH, if_neg hb]
/-- The answer's first 4k bytes stand. -/
def outTo (h : List UInt32) (k : Nat) : List Value := (outB (h.take k) ++ List.replicate (32 - 4 * k) 0).map u8v
theorem outTo_length {h : List UInt32} (hh : h.length = 8) {k : Nat} (hk : k ≤ 8) : (outTo h k).length = 32 := by
  simp [outTo, outB_length, hh]; omega
theorem outB_take {h : List UInt32} {k : Nat} (hk : k < h.length) : outB (h.take (k + 1)) = outB (h.take k) ++ [(h.getD k 0 >>> 24).toUInt8] ++ [(h.getD k 0 >>> 16).toUInt8] ++ [(h.getD k 0 >>> 8).toUInt8] ++ [(h.getD k 0).toUInt8] := by
  rw [List.take_add_one, List.getElem?_eq_getElem hk]
  simp only [outB, List.flatMap_append, Option.toList_some, List.flatMap_cons, List.flatMap_nil, List.append_nil, List.append_assoc, List.cons_append, List.nil_append, List.getD_eq_getElem?_getD, List.getElem?_eq_getElem hk, Option.getD_some]
theorem out_next {h : List UInt32} (hh : h.length = 8) {k o0 o1 o2 o3 : Nat} (hk : k < 8) (h0 : o0 = 4 * k) (h1 : o1 = 4 * k + 1) (h2 : o2 = 4 * k + 2) (h3 : o3 = 4 * k + 3) :
    wr (wr (wr (wr (outTo h k) o0 [u8v (h.getD k 0 >>> 24).toUInt8]) o1 [u8v (h.getD k 0 >>> 16).toUInt8]) o2 [u8v (h.getD k 0 >>> 8).toUInt8]) o3 [u8v (h.getD k 0).toUInt8] = outTo h (k + 1) := by
  have hl : (outB (h.take k)).length = 4 * k := by rw [outB_length, List.length_take]; omega
  have e0 := wr_next u8v (outB (h.take k)) 0 (h.getD k 0 >>> 24).toUInt8 32 (by omega)
  have e1 := wr_next u8v (outB (h.take k) ++ [(h.getD k 0 >>> 24).toUInt8]) 0 (h.getD k 0 >>> 16).toUInt8 32 (by simp; omega)
  have e2 := wr_next u8v (outB (h.take k) ++ [(h.getD k 0 >>> 24).toUInt8] ++ [(h.getD k 0 >>> 16).toUInt8]) 0 (h.getD k 0 >>> 8).toUInt8 32 (by simp; omega)
  have e3 := wr_next u8v (outB (h.take k) ++ [(h.getD k 0 >>> 24).toUInt8] ++ [(h.getD k 0 >>> 16).toUInt8] ++ [(h.getD k 0 >>> 8).toUInt8]) 0 (h.getD k 0).toUInt8 32 (by simp; omega)
  simp only [List.length_append, List.length_singleton, hl] at e0 e1 e2 e3
  subst h0 h1 h2 h3
  rw [outTo, e0, e1, e2, e3, outTo, outB_take (by omega)]
  congr 3
theorem outTo_all {h : List UInt32} (hh : h.length = 8) : outTo h 8 = (outB h).map u8v := by
  rw [outTo, List.take_of_length_le (by omega)]; simp
theorem wr_len {l vs : List Value} {o : Nat} (h : o + vs.length ≤ l.length) : (wr l o vs).length = l.length := by simp [wr]; omega
theorem len_u64 {n : Nat} (h : n < 1099511627776) : IntKind.u64.wrap (n : Int) = (n : Int) := by rw [IntKind.wrap_u64]; omega
theorem len_u64m {n : Nat} : IntKind.u64.wrap ((n : Int) * 8) = ((n * 8 % 2 ^ 64 : Nat) : Int) := by rw [IntKind.wrap_u64]; omega
theorem len_shr {m j : Nat} {q : Int} (hq : q = ((8 * (7 - j) : Nat) : Int)) : Int.fdiv (m : Int) (2 ^ min (Int.toNat q) IntKind.u64.bits) = ((m / 2 ^ (8 * (7 - j)) : Nat) : Int) := by
  subst hq
  have : min (8 * (7 - j)) 64 = 8 * (7 - j) := by omega
  rw [Int.toNat_natCast, show IntKind.u64.bits = 64 from rfl, this, Int.fdiv_eq_ediv_of_nonneg _ (Int.pow_nonneg (by decide))]
  simp

theorem of_cc (H : Gh) (hG : Glob H) (L : Chunks) (s : Bs) (hs : s.length < 549755813888) :
    CC Tryd.prog 91 #[str s] H L (fun v H' L' => v = ag (encId (sha s)) ∧ H = H' ∧ L = L') := by
 obtain ⟨⟨Ts, zs, hGs⟩, Tr, zr, hGr⟩ := hG
 have hpl := padded_le s
 have hpm := padded_mod s
 refine cc_of Tryd.func91 rfl (Nat.le_of_ble_eq_true rfl) ?_
 simp only [Tryd.ntmps91]
 refine gc_seq (gc_seqr [(.nm, 0)] rfl ?_)
 refine gr_nx rfl rfl rfl (nx_alloc Tryd.zeroValue34 rfl) ?_; rintro _ _ _ _ ⟨b2, rfl, rfl, rfl⟩; refine ⟨trivial, ?_⟩
 refine gr_nil (gk_then ?_)
 refine gc_seq (gc_seqr [(.mv, 0), (.nm, 1), (.nm, 2)] rfl ?_)
 refine gr_rd rfl rfl rfl (rd_loadA Tryd.ta151 rfl ⟨_, _, .inl hGs⟩ (Seg.all _) rfl) ?_
 refine gr_nx rfl rfl rfl (nx_alloc Tryd.zeroValue152 rfl) ?_; rintro _ _ _ _ ⟨b3, rfl, rfl, rfl⟩; refine ⟨trivial, ?_⟩
 refine gr_nx0 rfl rfl (nx_store (vs := startH.map w32) Tryd.sizeOf152 rfl rfl rfl rfl Upd.here (by simp [startH]) (oneCells_w32 _)) ?_; rintro _ _ _ _ ⟨rfl, rfl, rfl⟩; refine ⟨trivial, ?_⟩
 refine gr_nil (gk_then ?_)
 refine gc_seq (gc_seqr [(.mv, 0), (.mv, 1), (.mv, 2)] rfl ?_)
 refine gm rfl rfl rfl rfl ?_
 refine gr_rd rfl rfl rfl (rd_lenL Tryd.underlying9 rfl) ?_
 refine ga rfl rfl rfl rfl ?_
 refine gr_nil (gk_then ?_)
 refine gc_seq (gc_seqr [(.mv, 0), (.nm, 1), (.nm, 2), (.nm, 3), (.mv, 4)] rfl ?_)
 refine gm rfl rfl rfl rfl ?_
 refine gr_nx rfl rfl rfl (nx_convBytes Tryd.underlying9 Tryd.underlying117 Tryd.underlying5 rfl) ?_; rintro v14 H' L' hle ⟨C0, hO0, _, rfl, rfl⟩; refine ⟨trivial, ?_⟩
 refine gr_nx rfl rfl rfl (nx_slice1 (vs := [_]) Tryd.underlying117 Tryd.sizeOf5 Tryd.zeroValue5 rfl rfl rfl (by first | exact oneCells_of_all rfl | assumption) rfl rfl) ?_; rintro _ _ _ _ ⟨b15, rfl, rfl, rfl⟩; refine ⟨trivial, ?_⟩
 refine gr_nx rfl rfl rfl (nx_append Tryd.app117_117 rfl rfl hO0 pik (src_one rfl (oneCells_of_all rfl) List.mem_cons_self) (by omega) (by omega)) ?_; rintro v16 H' L' hle ⟨C1, hO1, _, rfl, rfl⟩; refine ⟨trivial, ?_⟩
 refine gr_drop (L' := C1 ++ (b3, .cells (startH.map w32).toArray 152 (0, 0)) :: (b2, .cells (List.replicate 32 (u8v 0)).toArray 34 (0, 0)) :: L) sbl ?_
 refine ga rfl rfl rfl rfl ?_
 refine gr_nil (gk_then ?_)
 refine gc_seq ?_
 refine gc_block ?_
 refine gc_loop (fun t : Nat × Bs × Value × Chunks => [(2, pt b2 0), (3, pt b3 0), (4, i64 s.length), (5, t.2.2.1)]) (fun t H1 L1 => H = H1 ∧ L1 = t.2.2.2 ++ (b3, .cells (startH.map w32).toArray 152 (0, 0)) :: (b2, .cells (List.replicate 32 (u8v 0)).toArray 34 (0, 0)) :: L ∧ Ow 5 1 t.2.2.2 t.2.2.1 t.2.1.length (t.2.1.map u8v) ∧ padTo t.1 t.2.1 = padTo 64 (s ++ [128]) ∧ gap t.2.1.length ≤ t.1 ∧ t.1 ≤ 64 ∧ t.2.1.length ≤ s.length + 1 + (64 - t.1)) (fun t => gap t.2.1.length) ((64, s ++ [128], v16, C1)) ?_ sbs ?_
 ·exact ⟨rfl, rfl, by simpa [u8v] using hO1, rfl, Nat.le_of_lt (gap_lt _), Nat.le_refl _, by simp⟩
 ·rintro ⟨k, bs, vb, C⟩ H1 L1 ⟨rfl, rfl, hO, hd, hg, hk64, hl⟩
  simp only at hO hd hg hk64 hl
  show GC _ _ _ _ [(2, pt b2 0), (3, pt b3 0), (4, i64 s.length), (5, vb)] H (C ++ (b3, .cells (startH.map w32).toArray 152 (0, 0)) :: (b2, .cells (List.replicate 32 (u8v 0)).toArray 34 (0, 0)) :: L)
  obtain ⟨A, cap, rfl, hcap⟩ := hO.slice
  refine gc_seq ?_
  refine gc_seq (gc_seqr [(.mv, 0), (.mv, 1), (.mv, 2), (.mv, 3)] rfl ?_)
  refine gm rfl rfl rfl rfl ?_
  refine gr_rd rfl rfl rfl (rd_lenS Tryd.underlying117 rfl) ?_
  refine gr_rd rfl rfl rfl (rd_rem rfl rfl (by omega) (r := ((bs.length % 64 : Nat) : Int)) (by rw [Int.tmod_eq_emod_of_nonneg (by omega)]; omega)) ?_
  refine gr_rd rfl rfl rfl (rd_neq rfl rfl) ?_
  refine gr_nil (gk_then ?_)
  refine gc_cond rfl (fun hc0 => ?_) (fun hc0 => ?_)
  ·have hc : bs.length % 64 ≠ 56 := by simp at hc0; omega
   have hgs := gap_step hc
   have hgl := gap_lt bs.length
   refine gc_skip ?_
   refine gk_then ?_
   refine gc_block ?_
   refine gc_seqr [(.mv, 0), (.nm, 1), (.nm, 2), (.mv, 3)] rfl ?_
   refine gm rfl rfl rfl rfl ?_
   refine gr_nx rfl rfl rfl (nx_slice1 (vs := [_]) Tryd.underlying117 Tryd.sizeOf5 Tryd.zeroValue5 rfl rfl rfl (by first | exact oneCells_of_all rfl | assumption) rfl rfl) ?_; rintro _ _ _ _ ⟨b22, rfl, rfl, rfl⟩; refine ⟨trivial, ?_⟩
   refine gr_nx rfl rfl rfl (nx_append Tryd.app117_117 rfl rfl hO pik (src_one rfl (oneCells_of_all rfl) List.mem_cons_self) (by omega) (by omega)) ?_; rintro v23 H' L' hle ⟨C2, hO2, _, rfl, rfl⟩; refine ⟨trivial, ?_⟩
   refine gr_drop (L' := C2 ++ (b3, .cells (startH.map w32).toArray 152 (0, 0)) :: (b2, .cells (List.replicate 32 (u8v 0)).toArray 34 (0, 0)) :: L) sbl ?_
   refine ga rfl rfl rfl rfl ?_
   refine gr_nil ?_
   refine gk_inBlock ?_
   refine gk_round (k - 1, bs ++ [0], _, C2) ?_ ?_ sbs
   · show gap (bs ++ [0]).length < gap bs.length
     rw [List.length_append, List.length_singleton]; omega
   · refine ⟨rfl, rfl, by simpa [u8v] using hO2, ?_, ?_, by simp only; omega, ?_⟩
     · rw [← hd, show k = (k - 1) + 1 by omega, padTo_step hc]; rfl
     · simp only [List.length_append, List.length_singleton]; omega
     · simp only [List.length_append, List.length_singleton]; omega
  ·have hc : bs.length % 64 = 56 := by simp at hc0; omega
   rw [padTo_done hc] at hd
   have hP : padded s = bs ++ lenB s.length := by rw [padded, ← hd]
   refine gc_exit ?_
   refine gk_exit_then ?_
   refine gk_exit_then ?_
   refine gk_here ?_
   refine gk_then ?_
   refine gc_seq ?_
   refine gc_seq (gc_seqr [(.mv, 0)] rfl ?_)
   refine ga rfl rfl rfl rfl ?_
   refine gr_nil (gk_then ?_)
   refine gc_block ?_
   refine gc_loop (fun t : Nat × Value × Chunks => [(2, pt b2 0), (3, pt b3 0), (4, i64 s.length), (5, t.2.1), (6, i64 (7 - (t.1 : Int)))]) (fun t H1 L1 => H = H1 ∧ L1 = t.2.2 ++ (b3, .cells (startH.map w32).toArray 152 (0, 0)) :: (b2, .cells (List.replicate 32 (u8v 0)).toArray 34 (0, 0)) :: L ∧ t.1 ≤ 8 ∧ Ow 5 1 t.2.2 t.2.1 (bs.length + t.1) ((bs ++ (lenB s.length).take t.1).map u8v)) (fun t => 8 - t.1) ((0, .slice A bs.length cap, C)) ?_ sbs ?_
   ·exact ⟨rfl, rfl, Nat.zero_le _, by simpa using hO⟩
   ·rintro ⟨j, vb, C3⟩ H1 L1 ⟨rfl, rfl, hj, hO3⟩
    simp only at hj hO3
    show GC _ _ _ _ [(2, pt b2 0), (3, pt b3 0), (4, i64 s.length), (5, vb), (6, i64 (7 - (j : Int)))] H (C3 ++ (b3, .cells (startH.map w32).toArray 152 (0, 0)) :: (b2, .cells (List.replicate 32 (u8v 0)).toArray 34 (0, 0)) :: L)
    refine gc_seq ?_
    refine gc_seq (gc_seqr [(.mv, 0), (.mv, 1)] rfl ?_)
    refine gm rfl rfl rfl rfl ?_
    refine gr_rd rfl rfl rfl (rd_geq rfl rfl) ?_
    refine gr_nil (gk_then ?_)
    refine gc_cond rfl (fun hc1 => ?_) (fun hc1 => ?_)
    ·have hj8 : j < 8 := by simp at hc1; omega
     refine gc_skip ?_
     refine gk_then ?_
     refine gc_seq ?_
     refine gc_block ?_
     refine gc_seqr [(.mv, 0), (.mv, 1), (.mv, 2), (.mv, 3), (.mv, 4), (.mv, 5), (.mv, 6), (.mv, 7), (.nm, 8), (.nm, 9), (.mv, 10)] rfl ?_
     refine gm rfl rfl rfl rfl ?_
     refine gm rfl rfl rfl rfl ?_
     refine gr_rd rfl rfl rfl (rd_convInt Tryd.underlying3 Tryd.underlying134 rfl (len_u64 (by omega))) ?_
     refine gr_rd rfl rfl rfl (rd_mul rfl rfl len_u64m) ?_
     refine gm rfl rfl rfl rfl ?_
     (first | refine gr_rd rfl rfl rfl (rd_mul rfl rfl (IntWalk.i64_in _ (by omega))) ?_ | refine gr_rd rfl rfl rfl (rd_mul rfl rfl rfl) ?_)
     refine gr_rd rfl rfl rfl (rd_shr rfl rfl (by omega) (len_shr (j := j) (by omega))) ?_
     refine gr_rd rfl rfl rfl (rd_convInt Tryd.underlying134 Tryd.underlying5 rfl (u8_of _)) ?_
     refine gr_nx rfl rfl rfl (nx_slice1 (vs := [_]) Tryd.underlying117 Tryd.sizeOf5 Tryd.zeroValue5 rfl rfl rfl (by first | exact oneCells_of_all rfl | assumption) rfl rfl) ?_; rintro _ _ _ _ ⟨b36, rfl, rfl, rfl⟩; refine ⟨trivial, ?_⟩
     refine gr_nx rfl rfl rfl (nx_append Tryd.app117_117 rfl rfl hO3 pik (src_one rfl (oneCells_of_all rfl) List.mem_cons_self) (by omega) (by omega)) ?_; rintro v37 H' L' hle ⟨C4, hO4, _, rfl, rfl⟩; refine ⟨trivial, ?_⟩
     refine gr_drop (L' := C4 ++ (b3, .cells (startH.map w32).toArray 152 (0, 0)) :: (b2, .cells (List.replicate 32 (u8v 0)).toArray 34 (0, 0)) :: L) sbl ?_
     refine ga rfl rfl rfl rfl ?_
     refine gr_nil ?_
     refine gk_inBlock ?_
     refine gk_then ?_
     refine gc_seqr [(.mv, 0), (.mv, 1), (.mv, 2)] rfl ?_
     refine gm rfl rfl rfl rfl ?_
     (first | refine gr_rd rfl rfl rfl (rd_sub rfl rfl (IntWalk.i64_in _ (by omega))) ?_ | refine gr_rd rfl rfl rfl (rd_sub rfl rfl rfl) ?_)
     refine ga rfl rfl rfl rfl ?_
     refine gr_nil ?_
     refine gk_round (j + 1, _, C4) ?_ ?_ (by repeat (first | exact Subs.nil | refine Subs.cons (by first | rfl | (simp [find]; omega)) ?_))
     · show 8 - (j + 1) < 8 - j
       omega
     · refine ⟨rfl, rfl, by simp only; omega, ?_⟩
       simp only
       rw [lenB_take hj8]
       simpa [u8v, Nat.add_assoc] using hO4
    ·have hj8 : j = 8 := by simp at hc1; omega
     subst hj8
     rw [List.take_of_length_le (by rw [lenB_length]; omega), ← hP] at hO3
     have hPl : (padded s).length = bs.length + 8 := by rw [hP, List.length_append, lenB_length]
     rw [← hPl] at hO3
     obtain ⟨A2, cap2, rfl, hcap2⟩ := hO3.slice
     obtain ⟨bb, lb, rfl, hcb, hsb⟩ := hO3.elem (by omega)
     refine gc_perm (L' := (b3, .cells (startH.map w32).toArray 152 (0, 0)) :: (C3 ++ (b2, .cells (List.replicate 32 (u8v 0)).toArray 34 (0, 0)) :: L)) List.perm_middle ?_
     refine gc_exit ?_
     refine gk_exit_then ?_
     refine gk_exit_then ?_
     refine gk_here ?_
     refine gk_then ?_
     refine gc_seq ?_
     refine gc_block ?_
     refine gc_loop (fun t : Nat × Nat × Nat × Nat × List UInt32 => [(2, pt b2 0), (3, pt b3 0), (5, .slice (some ⟨bb, t.2.1, none⟩) ((padded s).length - 64 * t.1) t.2.2.1)]) (fun t H1 L1 => H = H1 ∧ L1 = (b3, .cells (t.2.2.2.2.map w32).toArray 152 (0, 0)) :: (C3 ++ (b2, .cells (List.replicate 32 (u8v 0)).toArray 34 (0, 0)) :: L) ∧ 64 * t.1 ≤ (padded s).length ∧ (64 * t.1 < (padded s).length → t.2.1 = 64 * t.1) ∧ (padded s).length - 64 * t.1 ≤ t.2.2.1 ∧ t.2.2.2.2.length = 8 ∧ (padded s).length - 64 * t.1 ≤ t.2.2.2.1 ∧ blocksH t.2.2.2.1 t.2.2.2.2 ((padded s).drop (64 * t.1)) = blocksH (padded s).length startH (padded s)) (fun t => (padded s).length - 64 * t.1) ((0, 0, cap2, (padded s).length, startH)) ?_ sbs ?_
     ·exact ⟨rfl, rfl, Nat.zero_le _, fun _ => rfl, hcap2, rfl, Nat.le_refl _, rfl⟩
     ·rintro ⟨k, off, cp, fu, hv⟩ H1 L1 ⟨rfl, rfl, hk, hoff, hcp, hv8, hfu, hbl⟩
      simp only at hk hoff hcp hv8 hfu hbl
      show GC _ _ _ _ [(2, pt b2 0), (3, pt b3 0), (5, .slice (some ⟨bb, off, none⟩) ((padded s).length - 64 * k) cp)] H ((b3, .cells (hv.map w32).toArray 152 (0, 0)) :: (C3 ++ (b2, .cells (List.replicate 32 (u8v 0)).toArray 34 (0, 0)) :: L))
      refine gc_seq ?_
      refine gc_seq (gc_seqr [(.mv, 0), (.mv, 1), (.mv, 2)] rfl ?_)
      refine gm rfl rfl rfl rfl ?_
      refine gr_rd rfl rfl rfl (rd_lenS Tryd.underlying117 rfl) ?_
      refine gr_rd rfl rfl rfl (rd_gtr rfl rfl) ?_
      refine gr_nil (gk_then ?_)
      refine gc_cond rfl (fun hc2 => ?_) (fun hc2 => ?_)
      ·have hk64 : 64 * k < (padded s).length := by simp at hc2; omega
       have hoff := hoff hk64
       subst hoff
       have hne : (padded s).drop (64 * k) ≠ [] := by intro e; have := congrArg List.length e; simp at this; omega
       have hseg : Seg lb (64 * k) ((((padded s).drop (64 * k)).take 64).map u8v) := by
         intro j v hj
         have hj2 : j < 64 := by have := (List.getElem?_eq_some_iff.1 hj).1; simp at this; omega
         have h2 := hsb (64 * k + j) v (by simpa [List.getElem?_take, hj2] using hj)
         simpa using h2
       have hcl : Cells H (C3 ++ (b2, .cells (List.replicate 32 (u8v 0)).toArray 34 (0, 0)) :: L) bb lb := hcb _ _ (fun x hx => List.mem_append_left _ hx)
       refine gc_skip ?_
       refine gk_then ?_
       refine gc_seq ?_
       refine gc_block ?_
       refine gc_seqr [(.mv, 0), (.mv, 1), (.nm, 2)] rfl ?_
       refine gm rfl rfl rfl rfl ?_
       refine gr_rd rfl rfl rfl (rd_sliceHi Tryd.underlying117 Tryd.sizeOf5 rfl rfl (h := 64) rfl (by omega)) ?_
       refine gr_nx rfl rfl rfl (nx_call Tryd.en114 rfl (mix_cc H hGr _ hv hv8 b3 _ bb (64 * k) cp lb (((padded s).drop (64 * k)).take 64) (by simp; omega) hcl hseg)) ?_; rintro v45 H' L' hle ⟨rfl, rfl⟩; refine ⟨trivial, ?_⟩
       refine gr_nil ?_
       refine gk_inBlock ?_
       refine gk_then ?_
       refine gc_seqr [(.mv, 0), (.mv, 1), (.mv, 2)] rfl ?_
       refine gm rfl rfl rfl rfl ?_
       refine gr_rd rfl rfl rfl (rd_sliceLo Tryd.underlying117 Tryd.sizeOf5 rfl rfl (l := 64) rfl (by omega) (by omega)) ?_
       refine ga rfl rfl rfl rfl ?_
       refine gr_nil ?_
       refine gk_round (k + 1, (if cp = 64 then 64 * k else 64 * k + 64 * 1), cp - 64, fu - 1, mixH hv (((padded s).drop (64 * k)).take 64)) ?_ ?_ (by refine Subs.cons rfl (Subs.cons rfl (Subs.cons ?_ Subs.nil)); simp only [find, cond]; rw [Nat.sub_sub, Nat.mul_add])
       · show (padded s).length - 64 * (k + 1) < (padded s).length - 64 * k
         omega
       · refine ⟨rfl, rfl, by simp only; omega, fun h => ?_, by simp only; omega, mixH_length _ _ hv8, by simp only; omega, ?_⟩
         · simp only at h ⊢
           rw [if_neg (by omega)]; omega
         · simp only
           rw [← hbl, show fu = (fu - 1) + 1 by omega, blocksH_step hne, List.drop_drop]; rfl
      ·have hk64 : 64 * k = (padded s).length := by simp at hc2; omega
       rw [hk64, List.drop_length, blocksH_nil] at hbl
       refine gc_drop (L' := [(b3, .cells (hv.map w32).toArray 152 (0, 0)), (b2, .cells (List.replicate 32 (u8v 0)).toArray 34 (0, 0))] ++ L) (List.Sublist.cons_cons _ (List.sublist_append_right _ _)) ?_
       refine gc_exit ?_
       refine gk_exit_then ?_
       refine gk_exit_then ?_
       refine gk_here ?_
       refine gk_then ?_
       refine gc_seq (gc_seqr [(.nm, 0)] rfl ?_)
       refine gr_nx rfl rfl rfl (nx_alloc Tryd.zeroValue34 rfl) ?_; rintro _ _ _ _ ⟨b7, rfl, rfl, rfl⟩; refine ⟨trivial, ?_⟩
       refine gr_nil (gk_then ?_)
       refine gc_seq ?_
       refine gc_seq (gc_seqr [(.mv, 0), (.mv, 1)] rfl ?_)
       refine gr_rd rfl rfl rfl (rd_loadA Tryd.ta152 rfl ⟨_, _, .inr (List.mem_cons_of_mem _ List.mem_cons_self)⟩ (Seg.all _) (by rw [List.length_map, hv8])) ?_
       refine gm rfl rfl rfl rfl ?_
       refine gr_nil (gk_then ?_)
       refine gc_block ?_
       refine gc_loop (fun k : Nat => [(2, pt b2 0), (7, pt b7 0), (46, ag (hv.map w32)), (47, i64 k)]) (fun k H1 L1 => H = H1 ∧ (b7, .cells (outTo hv k).toArray 34 (0, 0)) :: (b3, .cells (hv.map w32).toArray 152 (0, 0)) :: (b2, .cells (List.replicate 32 (u8v 0)).toArray 34 (0, 0)) :: L = L1 ∧ k ≤ 8) (fun k => 8 - k) (0) ?_ sbs ?_
       ·exact ⟨rfl, rfl, Nat.zero_le _⟩
       ·rintro k H1 L1 ⟨rfl, rfl, hk⟩
        refine gc_seq (gc_seqr [(.mv, 0)] rfl ?_)
        refine gr_rd rfl rfl rfl (rd_lss rfl rfl) ?_
        refine gr_nil (gk_then ?_)
        refine gc_seq ?_
        refine gc_cond rfl (fun hc3 => ?_) (fun hc3 => ?_)
        ·have hk8 : k < 8 := by simp at hc3; omega
         have hol := outTo_length hv8 (k := k) (by omega)
         refine gc_skip ?_
         refine gk_then ?_
         refine gc_seq ?_
         refine gc_block ?_
         refine gc_seq (gc_seqr [(.mv, 0), (.mv, 1), (.mv, 2), (.mv, 3)] rfl ?_)
         refine gm rfl rfl rfl rfl ?_
         refine gr_rd rfl rfl rfl (rd_indexArr1 Tryd.underlying152 Tryd.to135 rfl rfl (by omega) (by omega) (by rw [Int.toNat_natCast]; exact w32_at hv (by omega))) ?_
         refine ga rfl rfl rfl rfl ?_
         refine ga rfl rfl rfl rfl ?_
         refine gr_nil (gk_then ?_)
         refine gc_seqr [(.mv, 0), (.mv, 1), (.mv, 2), (.mv, 3), (.mv, 4), (.mv, 5), (.mv, 6), (.mv, 7), (.mv, 8), (.mv, 9), (.mv, 10), (.mv, 11), (.mv, 12), (.mv, 13), (.mv, 14), (.mv, 15), (.mv, 16), (.mv, 17), (.mv, 18), (.mv, 19), (.mv, 20), (.mv, 21), (.mv, 22), (.nm, 23), (.mv, 24), (.nm, 25), (.mv, 26), (.nm, 27), (.mv, 28), (.nm, 29)] rfl ?_
         refine gm rfl rfl rfl rfl ?_
         (first | refine gr_rd rfl rfl rfl (rd_mul rfl rfl (IntWalk.i64_in _ (by omega))) ?_ | refine gr_rd rfl rfl rfl (rd_mul rfl rfl rfl) ?_)
         refine gm rfl rfl rfl rfl ?_
         (first | refine gr_rd rfl rfl rfl (rd_mul rfl rfl (IntWalk.i64_in _ (by omega))) ?_ | refine gr_rd rfl rfl rfl (rd_mul rfl rfl rfl) ?_)
         (first | refine gr_rd rfl rfl rfl (rd_add rfl rfl (IntWalk.i64_in _ (by omega))) ?_ | refine gr_rd rfl rfl rfl (rd_add rfl rfl rfl) ?_)
         refine gm rfl rfl rfl rfl ?_
         (first | refine gr_rd rfl rfl rfl (rd_mul rfl rfl (IntWalk.i64_in _ (by omega))) ?_ | refine gr_rd rfl rfl rfl (rd_mul rfl rfl rfl) ?_)
         (first | refine gr_rd rfl rfl rfl (rd_add rfl rfl (IntWalk.i64_in _ (by omega))) ?_ | refine gr_rd rfl rfl rfl (rd_add rfl rfl rfl) ?_)
         refine gm rfl rfl rfl rfl ?_
         (first | refine gr_rd rfl rfl rfl (rd_mul rfl rfl (IntWalk.i64_in _ (by omega))) ?_ | refine gr_rd rfl rfl rfl (rd_mul rfl rfl rfl) ?_)
         (first | refine gr_rd rfl rfl rfl (rd_add rfl rfl (IntWalk.i64_in _ (by omega))) ?_ | refine gr_rd rfl rfl rfl (rd_add rfl rfl rfl) ?_)
         refine gm rfl rfl rfl rfl ?_
         refine gr_rd rfl rfl rfl (rd_shr32 (k := 24) (by decide) rfl rfl rfl) ?_
         refine gr_rd rfl rfl rfl (rd_conv32_8 Tryd.underlying135 Tryd.underlying5 rfl) ?_
         refine gm rfl rfl rfl rfl ?_
         refine gr_rd rfl rfl rfl (rd_shr32 (k := 16) (by decide) rfl rfl rfl) ?_
         refine gr_rd rfl rfl rfl (rd_conv32_8 Tryd.underlying135 Tryd.underlying5 rfl) ?_
         refine gm rfl rfl rfl rfl ?_
         refine gr_rd rfl rfl rfl (rd_shr32 (k := 8) (by decide) rfl rfl rfl) ?_
         refine gr_rd rfl rfl rfl (rd_conv32_8 Tryd.underlying135 Tryd.underlying5 rfl) ?_
         refine gm rfl rfl rfl rfl ?_
         refine gr_rd rfl rfl rfl (rd_conv32_8 Tryd.underlying135 Tryd.underlying5 rfl) ?_
         refine gr_rd rfl rfl rfl (rd_indexA Tryd.underlying34 Tryd.sizeOf5 rfl rfl (by omega) (by omega)) ?_
         refine gr_nx0 rfl rfl (nx_store (vs := [_]) Tryd.sizeOf5 rfl rfl rfl rfl Upd.here (by simp [hol]; omega) (oneCells_of_all rfl)) ?_; rintro _ _ _ _ ⟨rfl, rfl, rfl⟩; refine ⟨trivial, ?_⟩
         refine gr_rd rfl rfl rfl (rd_indexA Tryd.underlying34 Tryd.sizeOf5 rfl rfl (by omega) (by omega)) ?_
         refine gr_nx0 rfl rfl (nx_store (vs := [_]) Tryd.sizeOf5 rfl rfl rfl rfl Upd.here (by rw [wr_len (by simp [hol]; omega)]; simp [hol]; omega) (oneCells_of_all rfl)) ?_; rintro _ _ _ _ ⟨rfl, rfl, rfl⟩; refine ⟨trivial, ?_⟩
         refine gr_rd rfl rfl rfl (rd_indexA Tryd.underlying34 Tryd.sizeOf5 rfl rfl (by omega) (by omega)) ?_
         refine gr_nx0 rfl rfl (nx_store (vs := [_]) Tryd.sizeOf5 rfl rfl rfl rfl Upd.here (by rw [wr_len (by rw [wr_len (by simp [hol]; omega)]; simp [hol]; omega), wr_len (by simp [hol]; omega)]; simp [hol]; omega) (oneCells_of_all rfl)) ?_; rintro _ _ _ _ ⟨rfl, rfl, rfl⟩; refine ⟨trivial, ?_⟩
         refine gr_rd rfl rfl rfl (rd_indexA Tryd.underlying34 Tryd.sizeOf5 rfl rfl (by omega) (by omega)) ?_
         refine gr_nx0 rfl rfl (nx_store (vs := [_]) Tryd.sizeOf5 rfl rfl rfl rfl Upd.here (by rw [wr_len (by rw [wr_len (by rw [wr_len (by simp [hol]; omega)]; simp [hol]; omega), wr_len (by simp [hol]; omega)]; simp [hol]; omega), wr_len (by rw [wr_len (by simp [hol]; omega)]; simp [hol]; omega), wr_len (by simp [hol]; omega)]; simp [hol]; omega) (oneCells_of_all rfl)) ?_; rintro _ _ _ _ ⟨rfl, rfl, rfl⟩; refine ⟨trivial, ?_⟩
         refine gr_nil ?_
         refine gk_inBlock ?_
         refine gk_then ?_
         refine gc_seqr [(.mv, 0), (.mv, 1)] rfl ?_
         (first | refine gr_rd rfl rfl rfl (rd_add rfl rfl (IntWalk.i64_in _ (by omega))) ?_ | refine gr_rd rfl rfl rfl (rd_add rfl rfl rfl) ?_)
         refine gm rfl rfl rfl rfl ?_
         refine gr_nil ?_
         refine gk_round (k + 1) (by omega) ⟨rfl, ?_, by omega⟩ sbs
         rw [← out_next hv8 hk8 (o0 := 0 + (4 * (k : Int)).toNat * 1) (o1 := 0 + (4 * (k : Int) + 1).toNat * 1) (o2 := 0 + (4 * (k : Int) + 2).toNat * 1) (o3 := 0 + (4 * (k : Int) + 3).toNat * 1) (by omega) (by omega) (by omega) (by omega)]
         rfl
        ·have hk8 : k = 8 := by simp at hc3; omega
         subst hk8
         have hout : outTo hv 8 = encId (sha s) := by rw [outTo_all hv8, hbl]; rfl
         rw [hout]
         refine gc_exit ?_
         refine gk_exit_then ?_
         refine gk_exit_then ?_
         refine gk_here ?_
         refine gk_then ?_
         refine gc_seq (gc_seqr [(.mv, 0), (.nm, 1)] rfl ?_)
         refine gr_rd rfl rfl rfl (rd_loadA Tryd.ta34 rfl ⟨_, _, .inr List.mem_cons_self⟩ (Seg.all _) (encId_length _)) ?_
         refine gr_nx0 rfl rfl (nx_store (vs := encId (sha s)) Tryd.sizeOf34 rfl rfl rfl (encId_length _) (Upd.there (Upd.there Upd.here)) (by simp) (encId_ones _)) ?_; rintro _ _ _ _ ⟨rfl, rfl, rfl⟩; refine ⟨trivial, ?_⟩
         have hwr : wr (List.replicate 32 (u8v 0)) 0 (encId (sha s)) = encId (sha s) := by simp [wr]
         rw [hwr]
         refine gr_nil (gk_then ?_)
         refine gc_ret ?_
         refine gk_result (L' := L) (.inl rfl) _ (resC1 rfl rfl Tryd.ta34 cel sg lnk) sbl gle ?_
         exact ⟨rfl, rfl, rfl⟩
end Go.Proofs.YtfhldfjknagidaaDoor

/-
  Walks: the reference's digests; digests of lists.
-/
set_option linter.unusedSimpArgs false
set_option linter.unusedVariables false
set_option linter.unnecessarySimpa false
set_option linter.all false
namespace Go.Proofs.YtfhldfjknagidaaDoor
open Go.VK Go.Tr
set_option maxRecDepth 20000
/-- The first j bytes of a word, put together. -/
def accW (p : Bs) (i : Nat) : Nat → UInt32
  | 0 => 0
  | j + 1 => 256 * accW p i j + (p.getD (4 * i + j) 0).toUInt32
theorem or_four {a b c d : Nat} (ha : a < 256) (hb : b < 256) (hc : c < 256) (hd : d < 256) : (a <<< 24 % 4294967296 ||| b <<< 16 % 4294967296 ||| c <<< 8 % 4294967296 ||| d) = 256 * (256 * (256 * a + b) + c) + d := by
  rw [Nat.mod_eq_of_lt (by rw [Nat.shiftLeft_eq]; omega), Nat.mod_eq_of_lt (by rw [Nat.shiftLeft_eq]; omega), Nat.mod_eq_of_lt (by rw [Nat.shiftLeft_eq]; omega)]
  rw [← Nat.shiftLeft_add_eq_or_of_lt (i := 24) (b := b <<< 16) (by rw [Nat.shiftLeft_eq]; omega) a]
  rw [show a <<< 24 + b <<< 16 = (a <<< 8 + b) <<< 16 by simp only [Nat.shiftLeft_eq]; omega]
  rw [← Nat.shiftLeft_add_eq_or_of_lt (i := 16) (b := c <<< 8) (by rw [Nat.shiftLeft_eq]; omega)]
  rw [show (a <<< 8 + b) <<< 16 + c <<< 8 = ((a <<< 8 + b) <<< 8 + c) <<< 8 by simp only [Nat.shiftLeft_eq]; omega]
  rw [← Nat.shiftLeft_add_eq_or_of_lt (i := 8) (b := d) (by omega)]
  simp only [Nat.shiftLeft_eq]; omega
theorem accW_word (p : Bs) (i : Nat) : accW p i 4 = word p i := by
  apply UInt32.toNat_inj.1
  have h0 := (p.getD (4 * i) 0).toNat_lt
  have h1 := (p.getD (4 * i + 1) 0).toNat_lt
  have h2 := (p.getD (4 * i + 2) 0).toNat_lt
  have h3 := (p.getD (4 * i + 3) 0).toNat_lt
  have := or_four h0 h1 h2 h3
  simp only [word, UInt32.toNat_or, UInt32.toNat_shiftLeft, UInt8.toNat_toUInt32]
  simp only [accW, UInt32.toNat_add, UInt32.toNat_mul, UInt8.toNat_toUInt32, Nat.add_zero]
  have e24 : (24 : UInt32).toNat % 32 = 24 := rfl
  have e16 : (16 : UInt32).toNat % 32 = 16 := rfl
  have e8 : (8 : UInt32).toNat % 32 = 8 := rfl
  rw [e24, e16, e8, this]
  have e256 : (256 : UInt32).toNat = 256 := rfl
  have e0 : (0 : UInt32).toNat = 0 := rfl
  rw [e256, e0]
  omega
theorem len_quo {x j : Nat} (hx : x < 2 ^ 64) (hj : j < 8) : UInt8.ofNat (x * 256 ^ j % 2 ^ 64 / 2 ^ 56) = UInt8.ofNat (x / 2 ^ (8 * (7 - j))) := by
  apply UInt8.toNat_inj.1
  simp only [UInt8.toNat_ofNat']
  have : j = 0 ∨ j = 1 ∨ j = 2 ∨ j = 3 ∨ j = 4 ∨ j = 5 ∨ j = 6 ∨ j = 7 := by omega
  rcases this with rfl | rfl | rfl | rfl | rfl | rfl | rfl | rfl <;> simp <;> omega
theorem len_quo2 {x : Nat} (hx : x < 2 ^ 64) : IntKind.u64.wrap (Int.tdiv (x : Int) 72057594037927936) = ((x / 2 ^ 56 : Nat) : Int) := by
  rw [Int.tdiv_eq_ediv_of_nonneg (by omega), IntKind.wrap_u64]; omega
theorem len_mul {x j : Nat} : IntKind.u64.wrap (((x * 256 ^ j % 2 ^ 64 : Nat) : Int) * 256) = ((x * 256 ^ (j + 1) % 2 ^ 64 : Nat) : Int) := by
  have e : x * 256 ^ (j + 1) = x * 256 ^ j * 256 := by rw [Nat.pow_succ, Nat.mul_assoc]
  rw [IntKind.wrap_u64, e]
  generalize x * 256 ^ j = y
  omega
theorem mid_next {A : List UInt32} {i : Nat} (hA : A.length = i) (x y : UInt32) (R : List UInt32) :
    wr ((A ++ x :: R).map w32) (0 + ((i : Int).toNat) * 1) [w32 y] = (A ++ y :: R).map w32 := by
  subst hA
  rw [show 0 + ((A.length : Int).toNat) * 1 = A.length by omega, wr]
  simp [List.drop_append]
theorem outB_get : ∀ (h : List UInt32) (j r : Nat), r < 4 → j < h.length → (outB h)[4 * j + r]? = some ((h.getD j 0 >>> UInt32.ofNat (24 - 8 * r)).toUInt8)
  | [], j, r, _, h => by simp at h
  | x :: l, 0, r, hr, _ => by
    have : r = 0 ∨ r = 1 ∨ r = 2 ∨ r = 3 := by omega
    rcases this with rfl | rfl | rfl | rfl
    · rfl
    · rfl
    · rfl
    · show some x.toUInt8 = some ((x >>> (0 : UInt32)).toUInt8)
      simp
  | x :: l, j + 1, r, hr, hj => by
    have ih := outB_get l j r hr (by simpa using hj)
    have e : outB (x :: l) = [(x >>> 24).toUInt8, (x >>> 16).toUInt8, (x >>> 8).toUInt8, x.toUInt8] ++ outB l := by simp [outB]
    rw [e, List.getElem?_append_right (by simp; omega)]
    simp only [List.length_cons, List.length_nil, List.getD_cons_succ]
    rw [show 4 * (j + 1) + r - (0 + 1 + 1 + 1 + 1) = 4 * j + r by omega]
    exact ih
theorem outB_step {h : List UInt32} {i : Nat} (hh : h.length = 8) (hi : i < 32) :
    wr (((outB h).take i ++ List.replicate (32 - i) 0).map u8v) (0 + ((i : Int).toNat) * 1) [u8v (h.getD (i / 4) 0 >>> UInt32.ofNat (24 - 8 * (i % 4))).toUInt8] = ((outB h).take (i + 1) ++ List.replicate (32 - (i + 1)) 0).map u8v := by
  have hl : ((outB h).take i).length = i := by rw [List.length_take, outB_length]; omega
  have e := wr_next u8v ((outB h).take i) 0 (h.getD (i / 4) 0 >>> UInt32.ofNat (24 - 8 * (i % 4))).toUInt8 32 (by omega)
  rw [hl] at e
  rw [show 0 + ((i : Int).toNat) * 1 = i by omega, e, List.take_add_one]
  have g := outB_get h (i / 4) (i % 4) (by omega) (by omega)
  rw [show 4 * (i / 4) + i % 4 = i by omega] at g
  rw [g]; rfl
theorem ow_cells {e n cap : Nat} {C : Chunks} {a : Option Addr} {S : List UInt32} (h : Ow e 1 C (.slice a n cap) n (S.map w32)) (hn : n ≠ 0) : ∃ b l, a = some ⟨b, 0, none⟩ ∧ (∀ (H : Gh) (L : Chunks), (∀ x ∈ C, x ∈ L) → Cells H L b l) ∧ ∀ j, j < S.length → l[j]? = some (w32 (S.getD j 0)) := by
  obtain ⟨b, l, h1, h2, h3⟩ := h.elem hn
  exact ⟨b, l, h1, h2, fun j hj => by have := h3 j _ (w32_at S hj); simpa using this⟩

theorem known_cc (H : Gh) (L : Chunks) :
    CC Tryd.prog 97 #[] H L (fun v H' L' => ∃ bk bh, v = .tuple #[.slice (some ⟨bh, 0, none⟩) 8 8, .slice (some ⟨bk, 0, none⟩) 64 64] ∧ H = H' ∧ (bk, .cells (roundK.map w32).toArray 135 (0, 0)) :: (bh, .cells (startH.map w32).toArray 135 (0, 0)) :: L = L') := by
 refine cc_of Tryd.func97 rfl (Nat.le_of_ble_eq_true rfl) ?_
 simp only [Tryd.ntmps97]
 refine gc_seq (gc_seqr [(.mv, 0), (.mv, 1)] rfl ?_)
 refine ga rfl rfl rfl rfl ?_
 refine ga rfl rfl rfl rfl ?_
 refine gr_nil (gk_then ?_)
 refine gc_seq (gc_seqr [(.nm, 0), (.mv, 1)] rfl ?_)
 refine gr_nx rfl rfl rfl (nx_slice1 (vs := [_, _, _, _, _, _, _, _]) Tryd.underlying131 Tryd.sizeOf135 Tryd.zeroValue135 rfl rfl rfl (by first | exact oneCells_of_all rfl | assumption) rfl rfl) ?_; rintro _ _ _ _ ⟨b4, rfl, rfl, rfl⟩; refine ⟨trivial, ?_⟩
 refine ga rfl rfl rfl rfl ?_
 refine gr_nil (gk_then ?_)
 refine gc_seq (gc_seqr [(.nm, 0), (.mv, 1)] rfl ?_)
 refine gr_nx rfl rfl rfl (nx_slice1 (vs := [_, _, _, _, _, _, _, _, _, _, _, _, _, _, _, _, _, _, _, _, _, _, _, _, _, _, _, _, _, _, _, _, _, _, _, _, _, _, _, _, _, _, _, _, _, _, _, _, _, _, _, _, _, _, _, _, _, _, _, _, _, _, _, _]) Tryd.underlying131 Tryd.sizeOf135 Tryd.zeroValue135 rfl rfl rfl (by first | exact oneCells_of_all rfl | assumption) rfl rfl) ?_; rintro _ _ _ _ ⟨b5, rfl, rfl, rfl⟩; refine ⟨trivial, ?_⟩
 refine ga rfl rfl rfl rfl ?_
 refine gr_nil (gk_then ?_)
 refine gc_seq (gc_seqr [(.mv, 0), (.mv, 1), (.mv, 2), (.mv, 3)] rfl ?_)
 refine gm rfl rfl rfl rfl ?_
 refine gm rfl rfl rfl rfl ?_
 refine ga rfl rfl rfl rfl ?_
 refine ga rfl rfl rfl rfl ?_
 refine gr_nil (gk_then ?_)
 refine gc_ret ?_
 refine gk_result (L' := (b5, .cells (roundK.map w32).toArray 135 (0, 0)) :: (b4, .cells (startH.map w32).toArray 135 (0, 0)) :: L) (.inl rfl) _ (res2 rfl rfl rfl) sbl gle ?_
 exact ⟨_, _, rfl, rfl, rfl⟩
set_option maxHeartbeats 4000000 in
theorem rof_cc (H : Gh) (L : Chunks) (s : Bs) (hs : s.length < 549755813888) :
    CC Tryd.prog 77 #[str s] H L (fun v H' L' => v = ag (encId (sha s)) ∧ H = H' ∧ L = L') := by
 have hpl := padded_le s
 have hpm := padded_mod s
 refine cc_of Tryd.func77 rfl (Nat.le_of_ble_eq_true rfl) ?_
 simp only [Tryd.ntmps77]
 refine gc_seq (gc_seqr [(.nm, 0)] rfl ?_)
 refine gr_nx rfl rfl rfl (nx_alloc Tryd.zeroValue34 rfl) ?_; rintro _ _ _ _ ⟨b2, rfl, rfl, rfl⟩; refine ⟨trivial, ?_⟩
 refine gr_nil (gk_then ?_)
 refine gc_seq (gc_seqr [(.nm, 0), (.mv, 1), (.mv, 2), (.mv, 3), (.mv, 4), (.mv, 5)] rfl ?_)
 refine gr_nx rfl rfl rfl (nx_call Tryd.en97 rfl (known_cc _ _)) ?_; rintro v23 H' L' hle ⟨bk, bh, rfl, rfl, rfl⟩; refine ⟨trivial, ?_⟩
 refine gm rfl rfl rfl rfl ?_
 refine gr_rd rfl rfl rfl (rd_extract rfl rfl) ?_
 refine gr_rd rfl rfl rfl (rd_extract rfl rfl) ?_
 refine ga rfl rfl rfl rfl ?_
 refine ga rfl rfl rfl rfl ?_
 refine gr_nil (gk_then ?_)
 refine gc_seq (gc_seqr [(.mv, 0), (.nm, 1), (.nm, 2), (.nm, 3), (.mv, 4)] rfl ?_)
 refine gm rfl rfl rfl rfl ?_
 refine gr_nx rfl rfl rfl (nx_convBytes Tryd.underlying9 Tryd.underlying117 Tryd.underlying5 rfl) ?_; rintro v27 H' L' hle ⟨C0, hO0, _, rfl, rfl⟩; refine ⟨trivial, ?_⟩
 refine gr_nx rfl rfl rfl (nx_slice1 (vs := [_]) Tryd.underlying117 Tryd.sizeOf5 Tryd.zeroValue5 rfl rfl rfl (by first | exact oneCells_of_all rfl | assumption) rfl rfl) ?_; rintro _ _ _ _ ⟨b28, rfl, rfl, rfl⟩; refine ⟨trivial, ?_⟩
 refine gr_nx rfl rfl rfl (nx_append Tryd.app117_117 rfl rfl hO0 pik (src_one rfl (oneCells_of_all rfl) List.mem_cons_self) (by omega) (by omega)) ?_; rintro v29 H' L' hle ⟨C1, hO1, _, rfl, rfl⟩; refine ⟨trivial, ?_⟩
 refine gr_drop (L' := C1 ++ (bk, .cells (roundK.map w32).toArray 135 (0, 0)) :: (bh, .cells (startH.map w32).toArray 135 (0, 0)) :: (b2, .cells (List.replicate 32 (u8v 0)).toArray 34 (0, 0)) :: L) sbl ?_
 refine ga rfl rfl rfl rfl ?_
 refine gr_nil (gk_then ?_)
 refine gc_seq ?_
 refine gc_block ?_
 refine gc_loop (fun t : Nat × Bs × Value × Chunks => [(0, str s), (2, pt b2 0), (3, .slice (some ⟨bh, 0, none⟩) 8 8), (4, .slice (some ⟨bk, 0, none⟩) 64 64), (5, t.2.2.1)]) (fun t H1 L1 => H = H1 ∧ L1 = t.2.2.2 ++ (bk, .cells (roundK.map w32).toArray 135 (0, 0)) :: (bh, .cells (startH.map w32).toArray 135 (0, 0)) :: (b2, .cells (List.replicate 32 (u8v 0)).toArray 34 (0, 0)) :: L ∧ Ow 5 1 t.2.2.2 t.2.2.1 t.2.1.length (t.2.1.map u8v) ∧ padTo t.1 t.2.1 = padTo 64 (s ++ [128]) ∧ gap t.2.1.length ≤ t.1 ∧ t.1 ≤ 64 ∧ t.2.1.length ≤ s.length + 1 + (64 - t.1)) (fun t => gap t.2.1.length) ((64, s ++ [128], v29, C1)) ?_ sbs ?_
 ·exact ⟨rfl, rfl, by simpa [u8v] using hO1, rfl, Nat.le_of_lt (gap_lt _), Nat.le_refl _, by simp⟩
 ·rintro ⟨k, bs, vb, C⟩ H1 L1 ⟨rfl, rfl, hO, hd, hg, hk64, hl⟩
  simp only at hO hd hg hk64 hl
  show GC _ _ _ _ [(0, str s), (2, pt b2 0), (3, .slice (some ⟨bh, 0, none⟩) 8 8), (4, .slice (some ⟨bk, 0, none⟩) 64 64), (5, vb)] H (C ++ (bk, .cells (roundK.map w32).toArray 135 (0, 0)) :: (bh, .cells (startH.map w32).toArray 135 (0, 0)) :: (b2, .cells (List.replicate 32 (u8v 0)).toArray 34 (0, 0)) :: L)
  obtain ⟨A, cap, rfl, hcap⟩ := hO.slice
  refine gc_seq ?_
  refine gc_seq (gc_seqr [(.mv, 0), (.mv, 1), (.mv, 2), (.mv, 3)] rfl ?_)
  refine gm rfl rfl rfl rfl ?_
  refine gr_rd rfl rfl rfl (rd_lenS Tryd.underlying117 rfl) ?_
  refine gr_rd rfl rfl rfl (rd_rem rfl rfl (by omega) (r := ((bs.length % 64 : Nat) : Int)) (by rw [Int.tmod_eq_emod_of_nonneg (by omega)]; omega)) ?_
  refine gr_rd rfl rfl rfl (rd_neq rfl rfl) ?_
  refine gr_nil (gk_then ?_)
  refine gc_cond rfl (fun hc0 => ?_) (fun hc0 => ?_)
  ·have hc : bs.length % 64 ≠ 56 := by simp at hc0; omega
   have hgs := gap_step hc
   have hgl := gap_lt bs.length
   refine gc_skip ?_
   refine gk_then ?_
   refine gc_block ?_
   refine gc_seqr [(.mv, 0), (.nm, 1), (.nm, 2), (.mv, 3)] rfl ?_
   refine gm rfl rfl rfl rfl ?_
   refine gr_nx rfl rfl rfl (nx_slice1 (vs := [_]) Tryd.underlying117 Tryd.sizeOf5 Tryd.zeroValue5 rfl rfl rfl (by first | exact oneCells_of_all rfl | assumption) rfl rfl) ?_; rintro _ _ _ _ ⟨b35, rfl, rfl, rfl⟩; refine ⟨trivial, ?_⟩
   refine gr_nx rfl rfl rfl (nx_append Tryd.app117_117 rfl rfl hO pik (src_one rfl (oneCells_of_all rfl) List.mem_cons_self) (by omega) (by omega)) ?_; rintro v36 H' L' hle ⟨C2, hO2, _, rfl, rfl⟩; refine ⟨trivial, ?_⟩
   refine gr_drop (L' := C2 ++ (bk, .cells (roundK.map w32).toArray 135 (0, 0)) :: (bh, .cells (startH.map w32).toArray 135 (0, 0)) :: (b2, .cells (List.replicate 32 (u8v 0)).toArray 34 (0, 0)) :: L) sbl ?_
   refine ga rfl rfl rfl rfl ?_
   refine gr_nil ?_
   refine gk_inBlock ?_
   refine gk_round (k - 1, bs ++ [0], _, C2) ?_ ?_ sbs
   · show gap (bs ++ [0]).length < gap bs.length
     rw [List.length_append, List.length_singleton]; omega
   · refine ⟨rfl, rfl, by simpa [u8v] using hO2, ?_, ?_, by simp only; omega, ?_⟩
     · rw [← hd, show k = (k - 1) + 1 by omega, padTo_step hc]; rfl
     · simp only [List.length_append, List.length_singleton]; omega
     · simp only [List.length_append, List.length_singleton]; omega
  ·have hc : bs.length % 64 = 56 := by simp at hc0; omega
   rw [padTo_done hc] at hd
   have hP : padded s = bs ++ lenB s.length := by rw [padded, ← hd]
   refine gc_exit ?_
   refine gk_exit_then ?_
   refine gk_exit_then ?_
   refine gk_here ?_
   refine gk_then ?_
   refine gc_seq (gc_seqr [(.mv, 0), (.mv, 1), (.mv, 2), (.mv, 3), (.mv, 4)] rfl ?_)
   refine gm rfl rfl rfl rfl ?_
   refine gr_rd rfl rfl rfl (rd_lenL Tryd.underlying9 rfl) ?_
   refine gr_rd rfl rfl rfl (rd_convInt Tryd.underlying3 Tryd.underlying134 rfl (len_u64 (by omega))) ?_
   refine gr_rd rfl rfl rfl (rd_mul rfl rfl len_u64m) ?_
   refine ga rfl rfl rfl rfl ?_
   refine gr_nil (gk_then ?_)
   refine gc_seq ?_
   refine gc_seq (gc_seqr [(.mv, 0)] rfl ?_)
   refine ga rfl rfl rfl rfl ?_
   refine gr_nil (gk_then ?_)
   refine gc_block ?_
   refine gc_loop (fun t : Nat × Value × Chunks => [(2, pt b2 0), (3, .slice (some ⟨bh, 0, none⟩) 8 8), (4, .slice (some ⟨bk, 0, none⟩) 64 64), (5, t.2.1), (6, .int .u64 ((s.length * 8 % 2 ^ 64 * 256 ^ t.1 % 2 ^ 64 : Nat) : Int)), (7, i64 t.1)]) (fun t H1 L1 => H = H1 ∧ L1 = t.2.2 ++ (bk, .cells (roundK.map w32).toArray 135 (0, 0)) :: (bh, .cells (startH.map w32).toArray 135 (0, 0)) :: (b2, .cells (List.replicate 32 (u8v 0)).toArray 34 (0, 0)) :: L ∧ t.1 ≤ 8 ∧ Ow 5 1 t.2.2 t.2.1 (bs.length + t.1) ((bs ++ (lenB s.length).take t.1).map u8v)) (fun t => 8 - t.1) ((0, .slice A bs.length cap, C)) ?_ (by refine Subs.cons rfl (Subs.cons rfl (Subs.cons rfl (Subs.cons rfl (Subs.cons ?_ (Subs.cons rfl Subs.nil))))); show some (Value.int .u64 ((s.length * 8 % 2 ^ 64 : Nat) : Int)) = some (Value.int .u64 ((s.length * 8 % 2 ^ 64 * 256 ^ 0 % 2 ^ 64 : Nat) : Int)); rw [Nat.pow_zero, Nat.mul_one, Nat.mod_mod]) ?_
   ·exact ⟨rfl, rfl, Nat.zero_le _, by simpa using hO⟩
   ·rintro ⟨j, vb, C3⟩ H1 L1 ⟨rfl, rfl, hj, hO3⟩
    simp only at hj hO3
    show GC _ _ _ _ [(2, pt b2 0), (3, .slice (some ⟨bh, 0, none⟩) 8 8), (4, .slice (some ⟨bk, 0, none⟩) 64 64), (5, vb), (6, .int .u64 ((s.length * 8 % 2 ^ 64 * 256 ^ j % 2 ^ 64 : Nat) : Int)), (7, i64 j)] H (C3 ++ (bk, .cells (roundK.map w32).toArray 135 (0, 0)) :: (bh, .cells (startH.map w32).toArray 135 (0, 0)) :: (b2, .cells (List.replicate 32 (u8v 0)).toArray 34 (0, 0)) :: L)
    refine gc_seq ?_
    refine gc_seq (gc_seqr [(.mv, 0), (.mv, 1)] rfl ?_)
    refine gm rfl rfl rfl rfl ?_
    refine gr_rd rfl rfl rfl (rd_lss rfl rfl) ?_
    refine gr_nil (gk_then ?_)
    refine gc_cond rfl (fun hc1 => ?_) (fun hc1 => ?_)
    ·have hj8 : j < 8 := by simp at hc1; omega
     refine gc_skip ?_
     refine gk_then ?_
     refine gc_seq ?_
     refine gc_block ?_
     refine gc_seq (gc_seqr [(.mv, 0), (.mv, 1), (.mv, 2), (.mv, 3), (.nm, 4), (.nm, 5), (.mv, 6)] rfl ?_)
     refine gm rfl rfl rfl rfl ?_
     refine gm rfl rfl rfl rfl ?_
     refine gr_rd rfl rfl rfl (rd_quo rfl rfl (by decide) (len_quo2 (Nat.mod_lt _ (by decide)))) ?_
     refine gr_rd rfl rfl rfl (rd_convInt Tryd.underlying134 Tryd.underlying5 rfl (u8_of _)) ?_
     refine gr_nx rfl rfl rfl (nx_slice1 (vs := [_]) Tryd.underlying117 Tryd.sizeOf5 Tryd.zeroValue5 rfl rfl rfl (by first | exact oneCells_of_all rfl | assumption) rfl rfl) ?_; rintro _ _ _ _ ⟨b49, rfl, rfl, rfl⟩; refine ⟨trivial, ?_⟩
     refine gr_nx rfl rfl rfl (nx_append Tryd.app117_117 rfl rfl hO3 pik (src_one rfl (oneCells_of_all rfl) List.mem_cons_self) (by omega) (by omega)) ?_; rintro v50 H' L' hle ⟨C4, hO4, _, rfl, rfl⟩; refine ⟨trivial, ?_⟩
     refine gr_drop (L' := C4 ++ (bk, .cells (roundK.map w32).toArray 135 (0, 0)) :: (bh, .cells (startH.map w32).toArray 135 (0, 0)) :: (b2, .cells (List.replicate 32 (u8v 0)).toArray 34 (0, 0)) :: L) sbl ?_
     refine ga rfl rfl rfl rfl ?_
     refine gr_nil (gk_then ?_)
     refine gc_seqr [(.mv, 0), (.mv, 1), (.mv, 2)] rfl ?_
     refine gm rfl rfl rfl rfl ?_
     refine gr_rd rfl rfl rfl (rd_mul rfl rfl len_mul) ?_
     refine ga rfl rfl rfl rfl ?_
     refine gr_nil ?_
     refine gk_inBlock ?_
     refine gk_then ?_
     refine gc_seqr [(.mv, 0), (.mv, 1), (.mv, 2)] rfl ?_
     refine gm rfl rfl rfl rfl ?_
     (first | refine gr_rd rfl rfl rfl (rd_add rfl rfl (IntWalk.i64_in _ (by omega))) ?_ | refine gr_rd rfl rfl rfl (rd_add rfl rfl rfl) ?_)
     refine ga rfl rfl rfl rfl ?_
     refine gr_nil ?_
     refine gk_round (j + 1, _, C4) ?_ ?_ sbs
     · show 8 - (j + 1) < 8 - j
       omega
     · refine ⟨rfl, rfl, by simp only; omega, ?_⟩
       simp only
       rw [lenB_take hj8, ← len_quo (Nat.mod_lt _ (by decide)) hj8]
       simpa [u8v, Nat.add_assoc] using hO4
    ·have hj8 : j = 8 := by simp at hc1; omega
     subst hj8
     rw [List.take_of_length_le (by rw [lenB_length]; omega), ← hP] at hO3
     have hPl : (padded s).length = bs.length + 8 := by rw [hP, List.length_append, lenB_length]
     rw [← hPl] at hO3
     obtain ⟨A2, cap2, rfl, hcap2⟩ := hO3.slice
     obtain ⟨bb, lb, rfl, hcb, hsb⟩ := hO3.elem (by omega)
     refine gc_exit ?_
     refine gk_exit_then ?_
     refine gk_exit_then ?_
     refine gk_here ?_
     refine gk_then ?_
     refine gc_seq ?_
     refine gc_seq (gc_seqr [(.mv, 0)] rfl ?_)
     refine ga rfl rfl rfl rfl ?_
     refine gr_nil (gk_then ?_)
     refine gc_block ?_
     refine gc_loop (fun t : Nat × Nat × List UInt32 => [(2, pt b2 0), (3, .slice (some ⟨bh, 0, none⟩) 8 8), (4, .slice (some ⟨bk, 0, none⟩) 64 64), (5, .slice (some ⟨bb, 0, none⟩) (padded s).length cap2), (8, i64 ((64 * t.1 : Nat) : Int))]) (fun t H1 L1 => H = H1 ∧ L1 = C3 ++ (bk, .cells (roundK.map w32).toArray 135 (0, 0)) :: (bh, .cells (t.2.2.map w32).toArray 135 (0, 0)) :: (b2, .cells (List.replicate 32 (u8v 0)).toArray 34 (0, 0)) :: L ∧ 64 * t.1 ≤ (padded s).length ∧ t.2.2.length = 8 ∧ (padded s).length - 64 * t.1 ≤ t.2.1 ∧ blocksH t.2.1 t.2.2 ((padded s).drop (64 * t.1)) = blocksH (padded s).length startH (padded s)) (fun t => (padded s).length - 64 * t.1) ((0, (padded s).length, startH)) ?_ sbs ?_
     ·exact ⟨rfl, rfl, Nat.zero_le _, rfl, Nat.le_refl _, rfl⟩
     ·rintro ⟨k, fu, hv⟩ H1 L1 ⟨rfl, rfl, hk, hv8, hfu, hbl⟩
      simp only at hk hv8 hfu hbl
      show GC _ _ _ _ [(2, pt b2 0), (3, .slice (some ⟨bh, 0, none⟩) 8 8), (4, .slice (some ⟨bk, 0, none⟩) 64 64), (5, .slice (some ⟨bb, 0, none⟩) (padded s).length cap2), (8, i64 ((64 * k : Nat) : Int))] H (C3 ++ (bk, .cells (roundK.map w32).toArray 135 (0, 0)) :: (bh, .cells (hv.map w32).toArray 135 (0, 0)) :: (b2, .cells (List.replicate 32 (u8v 0)).toArray 34 (0, 0)) :: L)
      refine gc_seq ?_
      refine gc_seq (gc_seqr [(.mv, 0), (.mv, 1), (.mv, 2), (.mv, 3)] rfl ?_)
      refine gm rfl rfl rfl rfl ?_
      refine gm rfl rfl rfl rfl ?_
      refine gr_rd rfl rfl rfl (rd_lenS Tryd.underlying117 rfl) ?_
      refine gr_rd rfl rfl rfl (rd_lss rfl rfl) ?_
      refine gr_nil (gk_then ?_)
      refine gc_cond rfl (fun hc2 => ?_) (fun hc2 => ?_)
      ·have hk64 : 64 * k < (padded s).length := by simp at hc2; omega
       have hne : (padded s).drop (64 * k) ≠ [] := by intro e; have := congrArg List.length e; simp at this; omega
       obtain ⟨p, hp⟩ : ∃ p, ((padded s).drop (64 * k)).take 64 = p := ⟨_, rfl⟩
       have hpl64 : p.length = 64 := by rw [← hp]; simp; omega
       have hseg : Seg lb (64 * k) (p.map u8v) := by
         rw [← hp]
         intro j v hj
         have hj2 : j < 64 := by have := (List.getElem?_eq_some_iff.1 hj).1; simp at this; omega
         have h2 := hsb (64 * k + j) v (by simpa [List.getElem?_take, hj2] using hj)
         simpa using h2
       refine gc_skip ?_
       refine gk_then ?_
       refine gc_seq ?_
       refine gc_block ?_
       refine gc_seq (gc_seqr [(.nm, 0), (.mv, 1)] rfl ?_)
       refine gr_nx rfl rfl rfl (nx_make Tryd.app131_131 rfl rfl rfl (n := 64) (by decide) (by decide) (by decide)) ?_; rintro v59 H' L' hle ⟨bw, rfl, rfl, rfl⟩; refine ⟨trivial, ?_⟩
       refine ga rfl rfl rfl rfl ?_
       refine gr_nil (gk_then ?_)
       refine gc_seq ?_
       refine gc_seq (gc_seqr [(.mv, 0)] rfl ?_)
       refine ga rfl rfl rfl rfl ?_
       refine gr_nil (gk_then ?_)
       refine gc_block ?_
       refine gc_loop (fun i : Nat => [(2, pt b2 0), (3, .slice (some ⟨bh, 0, none⟩) 8 8), (4, .slice (some ⟨bk, 0, none⟩) 64 64), (5, .slice (some ⟨bb, 0, none⟩) (padded s).length cap2), (8, i64 ((64 * k : Nat) : Int)), (9, .slice (some ⟨bw, 0, none⟩) 64 64), (10, i64 i)]) (fun i H1 L1 => H = H1 ∧ (bw, .cells ((wordsTo p i ++ List.replicate (64 - i) 0).map w32).toArray 135 (0, 0)) :: (C3 ++ (bk, .cells (roundK.map w32).toArray 135 (0, 0)) :: (bh, .cells (hv.map w32).toArray 135 (0, 0)) :: (b2, .cells (List.replicate 32 (u8v 0)).toArray 34 (0, 0)) :: L) = L1 ∧ i ≤ 16) (fun i => 16 - i) (0) ?_ sbs ?_
       ·exact ⟨rfl, rfl, Nat.zero_le _⟩
       ·rintro i H1 L1 ⟨rfl, rfl, hi⟩
        refine gc_seq ?_
        refine gc_seq (gc_seqr [(.mv, 0), (.mv, 1)] rfl ?_)
        refine gm rfl rfl rfl rfl ?_
        refine gr_rd rfl rfl rfl (rd_lss rfl rfl) ?_
        refine gr_nil (gk_then ?_)
        refine gc_cond rfl (fun hc3 => ?_) (fun hc3 => ?_)
        ·have hi16 : i < 16 := by simp at hc3; omega
         have hrep : wordsTo p i ++ List.replicate (64 - i) 0 = wordsTo p i ++ accW p i 0 :: List.replicate (64 - (i + 1)) 0 := by
           rw [show 64 - i = (64 - (i + 1)) + 1 by omega, List.replicate_succ]; rfl
         rw [hrep]
         refine gc_skip ?_
         refine gk_then ?_
         refine gc_seq ?_
         refine gc_block ?_
         refine gc_seq (gc_seqr [(.mv, 0)] rfl ?_)
         refine ga rfl rfl rfl rfl ?_
         refine gr_nil (gk_then ?_)
         refine gc_block ?_
         refine gc_loop (fun j : Nat => [(2, pt b2 0), (3, .slice (some ⟨bh, 0, none⟩) 8 8), (4, .slice (some ⟨bk, 0, none⟩) 64 64), (5, .slice (some ⟨bb, 0, none⟩) (padded s).length cap2), (8, i64 ((64 * k : Nat) : Int)), (9, .slice (some ⟨bw, 0, none⟩) 64 64), (10, i64 i), (11, i64 j)]) (fun j H1 L1 => H = H1 ∧ (bw, .cells ((wordsTo p i ++ accW p i j :: List.replicate (64 - (i + 1)) 0).map w32).toArray 135 (0, 0)) :: (C3 ++ (bk, .cells (roundK.map w32).toArray 135 (0, 0)) :: (bh, .cells (hv.map w32).toArray 135 (0, 0)) :: (b2, .cells (List.replicate 32 (u8v 0)).toArray 34 (0, 0)) :: L) = L1 ∧ j ≤ 4) (fun j => 4 - j) (0) ?_ sbs ?_
         ·exact ⟨rfl, rfl, Nat.zero_le _⟩
         ·rintro j H1 L1 ⟨rfl, rfl, hj⟩
          refine gc_seq ?_
          refine gc_seq (gc_seqr [(.mv, 0), (.mv, 1)] rfl ?_)
          refine gm rfl rfl rfl rfl ?_
          refine gr_rd rfl rfl rfl (rd_lss rfl rfl) ?_
          refine gr_nil (gk_then ?_)
          refine gc_cond rfl (fun hc4 => ?_) (fun hc4 => ?_)
          ·have hj4 : j < 4 := by simp at hc4; omega
           have hcl : Cells H ((bw, .cells ((wordsTo p i ++ accW p i j :: List.replicate (64 - (i + 1)) 0).map w32).toArray 135 (0, 0)) :: (C3 ++ (bk, .cells (roundK.map w32).toArray 135 (0, 0)) :: (bh, .cells (hv.map w32).toArray 135 (0, 0)) :: (b2, .cells (List.replicate 32 (u8v 0)).toArray 34 (0, 0)) :: L)) bb lb := hcb _ _ (fun x hx => List.mem_cons_of_mem _ (List.mem_append_left _ hx))
           refine gc_skip ?_
           refine gk_then ?_
           refine gc_seq ?_
           refine gc_block ?_
           refine gc_draw Tryd.mixed [(.mv, 0), (.mv, 1), (.mv, 2), (.mv, 3), (.mv, 4), (.mv, 5), (.mv, 6), (.mv, 7), (.mv, 8), (.mv, 9), (.mv, 10), (.mv, 11), (.mv, 12), (.mv, 13), (.mv, 14), (.mv, 15), (.mv, 16), (.mv, 17), (.mv, 18), (.fin, 19)] (by decide +kernel) _ (List.Sublist.refl _) ?_
           refine gm rfl rfl rfl rfl ?_
           refine gm rfl rfl rfl rfl ?_
           refine gm rfl rfl rfl rfl ?_
           refine gm rfl rfl rfl rfl ?_
           refine gr_rd rfl rfl rfl (rd_indexS Tryd.underlying131 Tryd.sizeOf135 rfl rfl (by first | rfl | assumption) (by omega) (by omega)) ?_
           refine gr_rd rfl rfl rfl (rd_load1 Tryd.to135 rfl ⟨_, _, .inr List.mem_cons_self⟩ (v := w32 (accW p i j)) (by rw [show 0 + ((i : Int).toNat) * 1 = i by omega, List.map_append, List.getElem?_append_right (by simp [wordsTo_length])]; simp [wordsTo_length])) ?_
           refine gr_rd rfl rfl rfl (rd_mul32 (a := 256) rfl rfl rfl) ?_
           refine gm rfl rfl rfl rfl ?_
           refine gm rfl rfl rfl rfl ?_
           refine gm rfl rfl rfl rfl ?_
           (first | refine gr_rd rfl rfl rfl (rd_mul rfl rfl (IntWalk.i64_in _ (by omega))) ?_ | refine gr_rd rfl rfl rfl (rd_mul rfl rfl rfl) ?_)
           (first | refine gr_rd rfl rfl rfl (rd_add rfl rfl (IntWalk.i64_in _ (by omega))) ?_ | refine gr_rd rfl rfl rfl (rd_add rfl rfl rfl) ?_)
           refine gm rfl rfl rfl rfl ?_
           (first | refine gr_rd rfl rfl rfl (rd_add rfl rfl (IntWalk.i64_in _ (by omega))) ?_ | refine gr_rd rfl rfl rfl (rd_add rfl rfl rfl) ?_)
           refine gr_rd rfl rfl rfl (rd_indexS Tryd.underlying117 Tryd.sizeOf5 rfl rfl (by first | rfl | assumption) (by omega) (by omega)) ?_
           refine gr_rd rfl rfl rfl (rd_load1 Tryd.to5 rfl hcl (v := u8v (p.getD (4 * i + j) 0)) (by have h := byte_at hseg (j := 4 * i + j) (i := ((4 * i + j : Nat) : Int)) rfl (by omega); rw [← h]; congr 1; omega)) ?_
           refine gr_rd rfl rfl rfl (rd_conv8_32 Tryd.underlying5 Tryd.underlying135 rfl) ?_
           (first | refine gr_rd rfl rfl rfl (rd_add32 rfl rfl) ?_ | refine gr_rd rfl rfl rfl (rd_add rfl rfl rfl) ?_)
           refine gr_rd rfl rfl rfl (rd_indexS Tryd.underlying131 Tryd.sizeOf135 rfl rfl (by first | rfl | assumption) (by omega) (by omega)) ?_
           refine gr_fin0 rfl rfl (nx_store (vs := [_]) Tryd.sizeOf135 rfl rfl rfl rfl Upd.here (by simp [wordsTo_length] <;> omega) (oneCells_of_all rfl)) ?_; rintro _ _ _ _ ⟨rfl, rfl, rfl⟩
           refine gr_nil ?_
           refine gk_inBlock ?_
           refine gk_then ?_
           refine gc_seqr [(.mv, 0), (.mv, 1), (.mv, 2)] rfl ?_
           refine gm rfl rfl rfl rfl ?_
           (first | refine gr_rd rfl rfl rfl (rd_add rfl rfl (IntWalk.i64_in _ (by omega))) ?_ | refine gr_rd rfl rfl rfl (rd_add rfl rfl rfl) ?_)
           refine ga rfl rfl rfl rfl ?_
           refine gr_nil ?_
           refine gk_round (j + 1) (by omega) ⟨rfl, ?_, by omega⟩ sbs
           rw [mid_next (wordsTo_length p i)]
           rfl
          ·have hj4 : j = 4 := by simp at hc4; omega
           refine gc_exit ?_
           refine gk_exit_then ?_
           refine gk_exit_then ?_
           refine gk_here ?_
           refine gk_inBlock ?_
           refine gk_then ?_
           refine gc_seqr [(.mv, 0), (.mv, 1), (.mv, 2)] rfl ?_
           refine gm rfl rfl rfl rfl ?_
           (first | refine gr_rd rfl rfl rfl (rd_add rfl rfl (IntWalk.i64_in _ (by omega))) ?_ | refine gr_rd rfl rfl rfl (rd_add rfl rfl rfl) ?_)
           refine ga rfl rfl rfl rfl ?_
           refine gr_nil ?_
           refine gk_round (i + 1) (by omega) ⟨rfl, ?_, by omega⟩ sbs
           rw [hj4, accW_word, show wordsTo p (i + 1) = wordsTo p i ++ [if i < 16 then word p i else nextW (wordsTo p i) i] from rfl, if_pos hi16, List.append_assoc]
           rfl
        ·have hi16 : i = 16 := by simp at hc3; omega
         subst hi16
         refine gc_exit ?_
         refine gk_exit_then ?_
         refine gk_exit_then ?_
         refine gk_here ?_
         refine gk_then ?_
         refine gc_seq ?_
         refine gc_seq (gc_seqr [(.mv, 0)] rfl ?_)
         refine ga rfl rfl rfl rfl ?_
         refine gr_nil (gk_then ?_)
         refine gc_block ?_
         refine gc_loop (fun i : Nat => [(2, pt b2 0), (3, .slice (some ⟨bh, 0, none⟩) 8 8), (4, .slice (some ⟨bk, 0, none⟩) 64 64), (5, .slice (some ⟨bb, 0, none⟩) (padded s).length cap2), (8, i64 ((64 * k : Nat) : Int)), (9, .slice (some ⟨bw, 0, none⟩) 64 64), (12, i64 i)]) (fun i H1 L1 => H = H1 ∧ (bw, .cells ((wordsTo p i ++ List.replicate (64 - i) 0).map w32).toArray 135 (0, 0)) :: (C3 ++ (bk, .cells (roundK.map w32).toArray 135 (0, 0)) :: (bh, .cells (hv.map w32).toArray 135 (0, 0)) :: (b2, .cells (List.replicate 32 (u8v 0)).toArray 34 (0, 0)) :: L) = L1 ∧ 16 ≤ i ∧ i ≤ 64) (fun i => 64 - i) (16) ?_ sbs ?_
         ·exact ⟨rfl, rfl, Nat.le_refl _, by decide⟩
         ·rintro k5 H1 L1 ⟨rfl, rfl, hk16, hk5⟩
          refine gc_seq ?_
          refine gc_seq (gc_seqr [(.mv, 0), (.mv, 1)] rfl ?_)
          refine gm rfl rfl rfl rfl ?_
          refine gr_rd rfl rfl rfl (rd_lss rfl rfl) ?_
          refine gr_nil (gk_then ?_)
          refine gc_cond rfl (fun hc5 => ?_) (fun hc5 => ?_)
          ·have hk64b : k5 < 64 := by simp at hc5; omega
           refine gc_skip ?_
           refine gk_then ?_
           refine gc_seq ?_
           refine gc_block ?_
           refine gc_seq ?_
           refine gc_draw Tryd.mixed [(.mv, 0), (.mv, 1), (.mv, 2), (.mv, 3), (.mv, 4), (.mv, 5), (.mv, 6), (.mv, 7), (.mv, 8), (.mv, 9), (.mv, 10), (.mv, 11)] (by decide +kernel) _ (List.Sublist.refl _) ?_
           refine gm rfl rfl rfl rfl ?_
           refine gm rfl rfl rfl rfl ?_
           (first | refine gr_rd rfl rfl rfl (rd_sub rfl rfl (IntWalk.i64_in _ (by omega))) ?_ | refine gr_rd rfl rfl rfl (rd_sub rfl rfl rfl) ?_)
           refine gr_rd rfl rfl rfl (rd_indexS Tryd.underlying131 Tryd.sizeOf135 rfl rfl (by first | rfl | assumption) (by omega) (by omega)) ?_
           refine gr_rd rfl rfl rfl (rd_load1 Tryd.to135 rfl ⟨_, _, .inr List.mem_cons_self⟩ (words_at (j := k5 - 15) (by omega) (by omega))) ?_
           refine gm rfl rfl rfl rfl ?_
           refine gm rfl rfl rfl rfl ?_
           (first | refine gr_rd rfl rfl rfl (rd_sub rfl rfl (IntWalk.i64_in _ (by omega))) ?_ | refine gr_rd rfl rfl rfl (rd_sub rfl rfl rfl) ?_)
           refine gr_rd rfl rfl rfl (rd_indexS Tryd.underlying131 Tryd.sizeOf135 rfl rfl (by first | rfl | assumption) (by omega) (by omega)) ?_
           refine gr_rd rfl rfl rfl (rd_load1 Tryd.to135 rfl ⟨_, _, .inr List.mem_cons_self⟩ (words_at (j := k5 - 2) (by omega) (by omega))) ?_
           refine ga rfl rfl rfl rfl ?_
           refine ga rfl rfl rfl rfl ?_
           refine gr_nil (gk_then ?_)
           refine gc_draw Tryd.mixed [(.mv, 0), (.mv, 1), (.mv, 2), (.mv, 3), (.mv, 4), (.mv, 5), (.mv, 6), (.mv, 7), (.mv, 8), (.mv, 9), (.mv, 10), (.mv, 11), (.mv, 12), (.mv, 13), (.mv, 15), (.mv, 18), (.mv, 19), (.mv, 22), (.mv, 24), (.mv, 27), (.mv, 28), (.nm, 14), (.nm, 16), (.mv, 17), (.mv, 20), (.mv, 21), (.nm, 23), (.nm, 25), (.mv, 26), (.mv, 29), (.mv, 30), (.mv, 31), (.fin, 32)] (by decide +kernel) _ (List.Sublist.refl _) ?_
           refine gm rfl rfl rfl rfl ?_
           refine gm rfl rfl rfl rfl ?_
           refine gm rfl rfl rfl rfl ?_
           refine gm rfl rfl rfl rfl ?_
           (first | refine gr_rd rfl rfl rfl (rd_sub rfl rfl (IntWalk.i64_in _ (by omega))) ?_ | refine gr_rd rfl rfl rfl (rd_sub rfl rfl rfl) ?_)
           refine gr_rd rfl rfl rfl (rd_indexS Tryd.underlying131 Tryd.sizeOf135 rfl rfl (by first | rfl | assumption) (by omega) (by omega)) ?_
           refine gr_rd rfl rfl rfl (rd_load1 Tryd.to135 rfl ⟨_, _, .inr List.mem_cons_self⟩ (words_at (j := k5 - 16) (by omega) (by omega))) ?_
           refine gm rfl rfl rfl rfl ?_
           refine gm rfl rfl rfl rfl ?_
           (first | refine gr_rd rfl rfl rfl (rd_sub rfl rfl (IntWalk.i64_in _ (by omega))) ?_ | refine gr_rd rfl rfl rfl (rd_sub rfl rfl rfl) ?_)
           refine gr_rd rfl rfl rfl (rd_indexS Tryd.underlying131 Tryd.sizeOf135 rfl rfl (by first | rfl | assumption) (by omega) (by omega)) ?_
           refine gr_rd rfl rfl rfl (rd_load1 Tryd.to135 rfl ⟨_, _, .inr List.mem_cons_self⟩ (words_at (j := k5 - 7) (by omega) (by omega))) ?_
           (first | refine gr_rd rfl rfl rfl (rd_add32 rfl rfl) ?_ | refine gr_rd rfl rfl rfl (rd_add rfl rfl rfl) ?_)
           refine gm rfl rfl rfl rfl ?_
           refine gm rfl rfl rfl rfl ?_
           refine gm rfl rfl rfl rfl ?_
           refine gr_rd rfl rfl rfl (rd_shr32 (k := 3) (by decide) rfl rfl rfl) ?_
           refine gm rfl rfl rfl rfl ?_
           refine gm rfl rfl rfl rfl ?_
           refine gm rfl rfl rfl rfl ?_
           refine gr_rd rfl rfl rfl (rd_shr32 (k := 10) (by decide) rfl rfl rfl) ?_
           refine gr_nx rfl rfl rfl (nx_call Tryd.en98 rfl (turn_cc _ _ _ 7 7 rfl (by decide) (by decide))) ?_; rintro v115 H' L' hle ⟨rfl, rfl, rfl⟩; refine ⟨kp, ?_⟩
           refine gr_nx rfl rfl rfl (nx_call Tryd.en98 rfl (turn_cc _ _ _ 18 18 rfl (by decide) (by decide))) ?_; rintro v117 H' L' hle ⟨rfl, rfl, rfl⟩; refine ⟨kp, ?_⟩
           (first | refine gr_rd rfl rfl rfl (rd_xor32 rfl rfl) ?_ | refine gr_rd rfl rfl rfl (rd_bits (by simp) rfl rfl rfl) ?_)
           (first | refine gr_rd rfl rfl rfl (rd_xor32 rfl rfl) ?_ | refine gr_rd rfl rfl rfl (rd_bits (by simp) rfl rfl rfl) ?_)
           (first | refine gr_rd rfl rfl rfl (rd_add32 rfl rfl) ?_ | refine gr_rd rfl rfl rfl (rd_add rfl rfl rfl) ?_)
           refine gr_nx rfl rfl rfl (nx_call Tryd.en98 rfl (turn_cc _ _ _ 17 17 rfl (by decide) (by decide))) ?_; rintro v124 H' L' hle ⟨rfl, rfl, rfl⟩; refine ⟨kp, ?_⟩
           refine gr_nx rfl rfl rfl (nx_call Tryd.en98 rfl (turn_cc _ _ _ 19 19 rfl (by decide) (by decide))) ?_; rintro v126 H' L' hle ⟨rfl, rfl, rfl⟩; refine ⟨kp, ?_⟩
           (first | refine gr_rd rfl rfl rfl (rd_xor32 rfl rfl) ?_ | refine gr_rd rfl rfl rfl (rd_bits (by simp) rfl rfl rfl) ?_)
           (first | refine gr_rd rfl rfl rfl (rd_xor32 rfl rfl) ?_ | refine gr_rd rfl rfl rfl (rd_bits (by simp) rfl rfl rfl) ?_)
           (first | refine gr_rd rfl rfl rfl (rd_add32 rfl rfl) ?_ | refine gr_rd rfl rfl rfl (rd_add rfl rfl rfl) ?_)
           refine gr_rd rfl rfl rfl (rd_indexS Tryd.underlying131 Tryd.sizeOf135 rfl rfl (by first | rfl | assumption) (by omega) (by omega)) ?_
           refine gr_fin0 rfl rfl (nx_store (vs := [_]) Tryd.sizeOf135 rfl rfl rfl rfl Upd.here (words_fit (by omega) _) (oneCells_of_all rfl)) ?_; rintro _ _ _ _ ⟨rfl, rfl, rfl⟩
           refine gr_nil ?_
           refine gk_inBlock ?_
           refine gk_then ?_
           refine gc_seqr [(.mv, 0), (.mv, 1), (.mv, 2)] rfl ?_
           refine gm rfl rfl rfl rfl ?_
           (first | refine gr_rd rfl rfl rfl (rd_add rfl rfl (IntWalk.i64_in _ (by omega))) ?_ | refine gr_rd rfl rfl rfl (rd_add rfl rfl rfl) ?_)
           refine ga rfl rfl rfl rfl ?_
           refine gr_nil ?_
           refine gk_round (k5 + 1) (by omega) ⟨rfl, ?_, by omega, by omega⟩ sbs
           rw [words_next hk64b (by rw [if_neg (by omega)]; rfl)]
          ·have hk64b : k5 = 64 := by simp at hc5; omega
           subst hk64b
           have hW0 : wordsTo p 64 ++ List.replicate (64 - 64) 0 = wordsTo p 64 := List.append_nil _
           have hWl : (wordsTo p 64).length = 64 := wordsTo_length p 64
           rw [hW0]
           clear hW0
           have hmix0 : mixH hv p = List.zipWith (· + ·) hv (roundsTo hv (wordsTo p 64) 64) := rfl
           obtain ⟨W, hW⟩ : ∃ W, wordsTo p 64 = W := ⟨_, rfl⟩
           rw [hW] at hWl hmix0 ⊢
           refine gc_exit ?_
           refine gk_exit_then ?_
           refine gk_exit_then ?_
           refine gk_here ?_
           refine gk_then ?_
           refine gc_seq (gc_seqr [(.nm, 0), (.mv, 1), (.nm, 2), (.mv, 3)] rfl ?_)
           refine gr_nx rfl rfl rfl (nx_slice1 (vs := []) Tryd.underlying131 Tryd.sizeOf135 Tryd.zeroValue135 rfl rfl rfl (by first | exact oneCells_of_all rfl | assumption) rfl rfl) ?_; rintro _ _ _ _ ⟨b133, rfl, rfl, rfl⟩; refine ⟨trivial, ?_⟩
           refine gm rfl rfl rfl rfl ?_
           refine gr_nx rfl rfl rfl (nx_append Tryd.app131_131 rfl rfl (Ow.new (b := b133) (e := 135) (k := 1) (n := 0) (cs := []) rfl) pik (src_one (m := 8) (by rw [List.length_map, hv8]) (oneCells_w32 hv) (List.mem_cons_of_mem _ (List.mem_cons_of_mem _ (List.mem_append_right _ (List.mem_cons_of_mem _ List.mem_cons_self))))) (by omega) (by omega)) ?_; rintro v135 H' L' hle ⟨C5, hO5, _, rfl, rfl⟩; refine ⟨trivial, ?_⟩
           refine ga rfl rfl rfl rfl ?_
           refine gr_nil (gk_then ?_)
           refine gc_seq ?_
           refine gc_seq (gc_seqr [(.mv, 0)] rfl ?_)
           refine ga rfl rfl rfl rfl ?_
           refine gr_nil (gk_then ?_)
           refine gc_block ?_
           refine gc_loop (fun t : Nat × Value × Chunks => [(2, pt b2 0), (3, .slice (some ⟨bh, 0, none⟩) 8 8), (4, .slice (some ⟨bk, 0, none⟩) 64 64), (5, .slice (some ⟨bb, 0, none⟩) (padded s).length cap2), (8, i64 ((64 * k : Nat) : Int)), (9, .slice (some ⟨bw, 0, none⟩) 64 64), (15, t.2.1), (16, i64 t.1)]) (fun t H1 L1 => H = H1 ∧ L1 = t.2.2 ++ (bw, .cells (W.map w32).toArray 135 (0, 0)) :: (C3 ++ (bk, .cells (roundK.map w32).toArray 135 (0, 0)) :: (bh, .cells (hv.map w32).toArray 135 (0, 0)) :: (b2, .cells (List.replicate 32 (u8v 0)).toArray 34 (0, 0)) :: L) ∧ t.1 ≤ 64 ∧ Ow 135 1 t.2.2 t.2.1 8 ((roundsTo hv W t.1).map w32)) (fun t => 64 - t.1) ((0, v135, C5)) ?_ sbs ?_
           ·exact ⟨rfl, rfl, Nat.zero_le _, by simpa [roundsTo] using hO5⟩
           ·rintro ⟨i, vv, Cv⟩ H1 L1 ⟨rfl, rfl, hi, hOv⟩
            simp only at hi hOv
            show GC _ _ _ _ [(2, pt b2 0), (3, .slice (some ⟨bh, 0, none⟩) 8 8), (4, .slice (some ⟨bk, 0, none⟩) 64 64), (5, .slice (some ⟨bb, 0, none⟩) (padded s).length cap2), (8, i64 ((64 * k : Nat) : Int)), (9, .slice (some ⟨bw, 0, none⟩) 64 64), (15, vv), (16, i64 i)] H (Cv ++ (bw, .cells (W.map w32).toArray 135 (0, 0)) :: (C3 ++ (bk, .cells (roundK.map w32).toArray 135 (0, 0)) :: (bh, .cells (hv.map w32).toArray 135 (0, 0)) :: (b2, .cells (List.replicate 32 (u8v 0)).toArray 34 (0, 0)) :: L))
            obtain ⟨Av, capv, rfl, hcapv⟩ := hOv.slice
            refine gc_seq ?_
            refine gc_seq (gc_seqr [(.mv, 0), (.mv, 1)] rfl ?_)
            refine gm rfl rfl rfl rfl ?_
            refine gr_rd rfl rfl rfl (rd_lss rfl rfl) ?_
            refine gr_nil (gk_then ?_)
            refine gc_cond rfl (fun hc6 => ?_) (fun hc6 => ?_)
            ·have hi64 : i < 64 := by simp at hc6; omega
             obtain ⟨bv, lv, rfl, hcv, hsv⟩ := ow_cells hOv (by decide)
             obtain ⟨a0, a1, a2, a3, a4, a5, a6, a7, hr⟩ := list8 (roundsTo_length hv W hv8 i)
             rw [hr] at hsv
             have hclv := hcv H (Cv ++ (bw, .cells (W.map w32).toArray 135 (0, 0)) :: (C3 ++ (bk, .cells (roundK.map w32).toArray 135 (0, 0)) :: (bh, .cells (hv.map w32).toArray 135 (0, 0)) :: (b2, .cells (List.replicate 32 (u8v 0)).toArray 34 (0, 0)) :: L)) (fun x hx => List.mem_append_left _ hx)
             have hclk : Cells H (Cv ++ (bw, .cells (W.map w32).toArray 135 (0, 0)) :: (C3 ++ (bk, .cells (roundK.map w32).toArray 135 (0, 0)) :: (bh, .cells (hv.map w32).toArray 135 (0, 0)) :: (b2, .cells (List.replicate 32 (u8v 0)).toArray 34 (0, 0)) :: L)) bk (roundK.map w32) := Cells.own (List.mem_append_right _ (List.mem_cons_of_mem _ (List.mem_append_right _ List.mem_cons_self)))
             have hclw : Cells H (Cv ++ (bw, .cells (W.map w32).toArray 135 (0, 0)) :: (C3 ++ (bk, .cells (roundK.map w32).toArray 135 (0, 0)) :: (bh, .cells (hv.map w32).toArray 135 (0, 0)) :: (b2, .cells (List.replicate 32 (u8v 0)).toArray 34 (0, 0)) :: L)) bw (W.map w32) := Cells.own (List.mem_append_right _ List.mem_cons_self)
             have hx0 : lv[0]? = some (w32 a0) := hsv 0 (by simp)
             have hx1 : lv[1]? = some (w32 a1) := hsv 1 (by simp)
             have hx2 : lv[2]? = some (w32 a2) := hsv 2 (by simp)
             have hx3 : lv[3]? = some (w32 a3) := hsv 3 (by simp)
             have hx4 : lv[4]? = some (w32 a4) := hsv 4 (by simp)
             have hx5 : lv[5]? = some (w32 a5) := hsv 5 (by simp)
             have hx6 : lv[6]? = some (w32 a6) := hsv 6 (by simp)
             have hx7 : lv[7]? = some (w32 a7) := hsv 7 (by simp)
             have hxk := w32_at2 roundK (j := i) (i := (i : Int)) hi64 rfl
             have hxw := w32_at2 W (j := i) (i := (i : Int)) (by omega) rfl
             refine gc_skip ?_
             refine gk_then ?_
             refine gc_seq ?_
             refine gc_block ?_
             refine gc_seq ?_
             refine gc_draw Tryd.mixed [(.mv, 0), (.mv, 1), (.mv, 2), (.mv, 3), (.mv, 4), (.mv, 5), (.mv, 7), (.mv, 8), (.mv, 9), (.mv, 12), (.mv, 13), (.mv, 14), (.mv, 18), (.mv, 19), (.mv, 20), (.mv, 21), (.mv, 22), (.mv, 23), (.mv, 24), (.mv, 25), (.mv, 26), (.mv, 27), (.mv, 28), (.mv, 29), (.mv, 30), (.mv, 31), (.mv, 32), (.mv, 33), (.mv, 35), (.mv, 36), (.mv, 37), (.mv, 38), (.mv, 40), (.mv, 41), (.mv, 42), (.mv, 43), (.nm, 6), (.nm, 10), (.mv, 11), (.nm, 15), (.mv, 16), (.mv, 17), (.mv, 34), (.mv, 39), (.mv, 44), (.mv, 45)] (by decide +kernel) _ (List.Sublist.refl _) ?_
             refine gm rfl rfl rfl rfl ?_
             refine gr_rd rfl rfl rfl (rd_indexS Tryd.underlying131 Tryd.sizeOf135 rfl rfl (by first | rfl | assumption) (by omega) (by omega)) ?_
             refine gr_rd rfl rfl rfl (rd_load1 Tryd.to135 rfl cel at1) ?_
             refine gm rfl rfl rfl rfl ?_
             refine gr_rd rfl rfl rfl (rd_indexS Tryd.underlying131 Tryd.sizeOf135 rfl rfl (by first | rfl | assumption) (by omega) (by omega)) ?_
             refine gr_rd rfl rfl rfl (rd_load1 Tryd.to135 rfl cel at1) ?_
             refine gm rfl rfl rfl rfl ?_
             refine gr_rd rfl rfl rfl (rd_indexS Tryd.underlying131 Tryd.sizeOf135 rfl rfl (by first | rfl | assumption) (by omega) (by omega)) ?_
             refine gr_rd rfl rfl rfl (rd_load1 Tryd.to135 rfl cel at1) ?_
             refine gm rfl rfl rfl rfl ?_
             refine gr_rd rfl rfl rfl (rd_indexS Tryd.underlying131 Tryd.sizeOf135 rfl rfl (by first | rfl | assumption) (by omega) (by omega)) ?_
             refine gr_rd rfl rfl rfl (rd_load1 Tryd.to135 rfl cel at1) ?_
             refine gm rfl rfl rfl rfl ?_
             refine gr_rd rfl rfl rfl (rd_indexS Tryd.underlying131 Tryd.sizeOf135 rfl rfl (by first | rfl | assumption) (by omega) (by omega)) ?_
             refine gr_rd rfl rfl rfl (rd_load1 Tryd.to135 rfl cel at1) ?_
             refine gm rfl rfl rfl rfl ?_
             refine gr_rd rfl rfl rfl (rd_indexS Tryd.underlying131 Tryd.sizeOf135 rfl rfl (by first | rfl | assumption) (by omega) (by omega)) ?_
             refine gr_rd rfl rfl rfl (rd_load1 Tryd.to135 rfl cel at1) ?_
             (first | refine gr_rd rfl rfl rfl (rd_and32 rfl rfl) ?_ | refine gr_rd rfl rfl rfl (rd_bits (by simp) rfl rfl rfl) ?_)
             refine gm rfl rfl rfl rfl ?_
             refine gr_rd rfl rfl rfl (rd_indexS Tryd.underlying131 Tryd.sizeOf135 rfl rfl (by first | rfl | assumption) (by omega) (by omega)) ?_
             refine gr_rd rfl rfl rfl (rd_load1 Tryd.to135 rfl cel at1) ?_
             refine gr_rd rfl rfl rfl (rd_not32 rfl) ?_
             refine gm rfl rfl rfl rfl ?_
             refine gr_rd rfl rfl rfl (rd_indexS Tryd.underlying131 Tryd.sizeOf135 rfl rfl (by first | rfl | assumption) (by omega) (by omega)) ?_
             refine gr_rd rfl rfl rfl (rd_load1 Tryd.to135 rfl cel at1) ?_
             (first | refine gr_rd rfl rfl rfl (rd_and32 rfl rfl) ?_ | refine gr_rd rfl rfl rfl (rd_bits (by simp) rfl rfl rfl) ?_)
             (first | refine gr_rd rfl rfl rfl (rd_xor32 rfl rfl) ?_ | refine gr_rd rfl rfl rfl (rd_bits (by simp) rfl rfl rfl) ?_)
             refine gm rfl rfl rfl rfl ?_
             refine gm rfl rfl rfl rfl ?_
             refine gr_rd rfl rfl rfl (rd_indexS Tryd.underlying131 Tryd.sizeOf135 rfl rfl (by first | rfl | assumption) (by omega) (by omega)) ?_
             refine gr_rd rfl rfl rfl (rd_load1 Tryd.to135 rfl cel at1) ?_
             refine gm rfl rfl rfl rfl ?_
             refine gm rfl rfl rfl rfl ?_
             refine gr_rd rfl rfl rfl (rd_indexS Tryd.underlying131 Tryd.sizeOf135 rfl rfl (by first | rfl | assumption) (by omega) (by omega)) ?_
             refine gr_rd rfl rfl rfl (rd_load1 Tryd.to135 rfl cel at1) ?_
             refine gr_nx rfl rfl rfl (nx_call Tryd.en98 rfl (turn_cc _ _ _ 6 6 rfl (by decide) (by decide))) ?_; rintro v146 H' L' hle ⟨rfl, rfl, rfl⟩; refine ⟨kp, ?_⟩
             refine gr_nx rfl rfl rfl (nx_call Tryd.en98 rfl (turn_cc _ _ _ 11 11 rfl (by decide) (by decide))) ?_; rintro v150 H' L' hle ⟨rfl, rfl, rfl⟩; refine ⟨kp, ?_⟩
             (first | refine gr_rd rfl rfl rfl (rd_xor32 rfl rfl) ?_ | refine gr_rd rfl rfl rfl (rd_bits (by simp) rfl rfl rfl) ?_)
             refine gr_nx rfl rfl rfl (nx_call Tryd.en98 rfl (turn_cc _ _ _ 25 25 rfl (by decide) (by decide))) ?_; rintro v155 H' L' hle ⟨rfl, rfl, rfl⟩; refine ⟨kp, ?_⟩
             (first | refine gr_rd rfl rfl rfl (rd_xor32 rfl rfl) ?_ | refine gr_rd rfl rfl rfl (rd_bits (by simp) rfl rfl rfl) ?_)
             (first | refine gr_rd rfl rfl rfl (rd_add32 rfl rfl) ?_ | refine gr_rd rfl rfl rfl (rd_add rfl rfl rfl) ?_)
             (first | refine gr_rd rfl rfl rfl (rd_add32 rfl rfl) ?_ | refine gr_rd rfl rfl rfl (rd_add rfl rfl rfl) ?_)
             (first | refine gr_rd rfl rfl rfl (rd_add32 rfl rfl) ?_ | refine gr_rd rfl rfl rfl (rd_add rfl rfl rfl) ?_)
             (first | refine gr_rd rfl rfl rfl (rd_add32 rfl rfl) ?_ | refine gr_rd rfl rfl rfl (rd_add rfl rfl rfl) ?_)
             refine ga rfl rfl rfl rfl ?_
             refine gr_nil (gk_then ?_)
             refine gc_seq ?_
             refine gc_draw Tryd.mixed [(.mv, 0), (.mv, 1), (.mv, 2), (.mv, 4), (.mv, 5), (.mv, 6), (.mv, 9), (.mv, 10), (.mv, 11), (.mv, 14), (.mv, 15), (.mv, 16), (.mv, 17), (.mv, 18), (.mv, 19), (.mv, 20), (.mv, 21), (.mv, 22), (.mv, 23), (.mv, 24), (.mv, 25), (.mv, 26), (.mv, 27), (.mv, 28), (.mv, 29), (.mv, 30), (.mv, 31), (.mv, 32), (.mv, 33), (.mv, 34), (.mv, 35), (.mv, 36), (.nm, 3), (.nm, 7), (.mv, 8), (.nm, 12), (.mv, 13), (.mv, 37), (.mv, 38)] (by decide +kernel) _ (List.Sublist.refl _) ?_
             refine gm rfl rfl rfl rfl ?_
             refine gr_rd rfl rfl rfl (rd_indexS Tryd.underlying131 Tryd.sizeOf135 rfl rfl (by first | rfl | assumption) (by omega) (by omega)) ?_
             refine gr_rd rfl rfl rfl (rd_load1 Tryd.to135 rfl cel at1) ?_
             refine gm rfl rfl rfl rfl ?_
             refine gr_rd rfl rfl rfl (rd_indexS Tryd.underlying131 Tryd.sizeOf135 rfl rfl (by first | rfl | assumption) (by omega) (by omega)) ?_
             refine gr_rd rfl rfl rfl (rd_load1 Tryd.to135 rfl cel at1) ?_
             refine gm rfl rfl rfl rfl ?_
             refine gr_rd rfl rfl rfl (rd_indexS Tryd.underlying131 Tryd.sizeOf135 rfl rfl (by first | rfl | assumption) (by omega) (by omega)) ?_
             refine gr_rd rfl rfl rfl (rd_load1 Tryd.to135 rfl cel at1) ?_
             refine gm rfl rfl rfl rfl ?_
             refine gr_rd rfl rfl rfl (rd_indexS Tryd.underlying131 Tryd.sizeOf135 rfl rfl (by first | rfl | assumption) (by omega) (by omega)) ?_
             refine gr_rd rfl rfl rfl (rd_load1 Tryd.to135 rfl cel at1) ?_
             refine gm rfl rfl rfl rfl ?_
             refine gr_rd rfl rfl rfl (rd_indexS Tryd.underlying131 Tryd.sizeOf135 rfl rfl (by first | rfl | assumption) (by omega) (by omega)) ?_
             refine gr_rd rfl rfl rfl (rd_load1 Tryd.to135 rfl cel at1) ?_
             (first | refine gr_rd rfl rfl rfl (rd_and32 rfl rfl) ?_ | refine gr_rd rfl rfl rfl (rd_bits (by simp) rfl rfl rfl) ?_)
             refine gm rfl rfl rfl rfl ?_
             refine gr_rd rfl rfl rfl (rd_indexS Tryd.underlying131 Tryd.sizeOf135 rfl rfl (by first | rfl | assumption) (by omega) (by omega)) ?_
             refine gr_rd rfl rfl rfl (rd_load1 Tryd.to135 rfl cel at1) ?_
             refine gm rfl rfl rfl rfl ?_
             refine gr_rd rfl rfl rfl (rd_indexS Tryd.underlying131 Tryd.sizeOf135 rfl rfl (by first | rfl | assumption) (by omega) (by omega)) ?_
             refine gr_rd rfl rfl rfl (rd_load1 Tryd.to135 rfl cel at1) ?_
             (first | refine gr_rd rfl rfl rfl (rd_and32 rfl rfl) ?_ | refine gr_rd rfl rfl rfl (rd_bits (by simp) rfl rfl rfl) ?_)
             (first | refine gr_rd rfl rfl rfl (rd_xor32 rfl rfl) ?_ | refine gr_rd rfl rfl rfl (rd_bits (by simp) rfl rfl rfl) ?_)
             refine gm rfl rfl rfl rfl ?_
             refine gr_rd rfl rfl rfl (rd_indexS Tryd.underlying131 Tryd.sizeOf135 rfl rfl (by first | rfl | assumption) (by omega) (by omega)) ?_
             refine gr_rd rfl rfl rfl (rd_load1 Tryd.to135 rfl cel at1) ?_
             refine gm rfl rfl rfl rfl ?_
             refine gr_rd rfl rfl rfl (rd_indexS Tryd.underlying131 Tryd.sizeOf135 rfl rfl (by first | rfl | assumption) (by omega) (by omega)) ?_
             refine gr_rd rfl rfl rfl (rd_load1 Tryd.to135 rfl cel at1) ?_
             (first | refine gr_rd rfl rfl rfl (rd_and32 rfl rfl) ?_ | refine gr_rd rfl rfl rfl (rd_bits (by simp) rfl rfl rfl) ?_)
             (first | refine gr_rd rfl rfl rfl (rd_xor32 rfl rfl) ?_ | refine gr_rd rfl rfl rfl (rd_bits (by simp) rfl rfl rfl) ?_)
             refine gr_nx rfl rfl rfl (nx_call Tryd.en98 rfl (turn_cc _ _ _ 2 2 rfl (by decide) (by decide))) ?_; rintro v188 H' L' hle ⟨rfl, rfl, rfl⟩; refine ⟨kp, ?_⟩
             refine gr_nx rfl rfl rfl (nx_call Tryd.en98 rfl (turn_cc _ _ _ 13 13 rfl (by decide) (by decide))) ?_; rintro v192 H' L' hle ⟨rfl, rfl, rfl⟩; refine ⟨kp, ?_⟩
             (first | refine gr_rd rfl rfl rfl (rd_xor32 rfl rfl) ?_ | refine gr_rd rfl rfl rfl (rd_bits (by simp) rfl rfl rfl) ?_)
             refine gr_nx rfl rfl rfl (nx_call Tryd.en98 rfl (turn_cc _ _ _ 22 22 rfl (by decide) (by decide))) ?_; rintro v197 H' L' hle ⟨rfl, rfl, rfl⟩; refine ⟨kp, ?_⟩
             (first | refine gr_rd rfl rfl rfl (rd_xor32 rfl rfl) ?_ | refine gr_rd rfl rfl rfl (rd_bits (by simp) rfl rfl rfl) ?_)
             (first | refine gr_rd rfl rfl rfl (rd_add32 rfl rfl) ?_ | refine gr_rd rfl rfl rfl (rd_add rfl rfl rfl) ?_)
             refine ga rfl rfl rfl rfl ?_
             refine gr_nil (gk_then ?_)
             refine gc_draw Tryd.mixed [(.mv, 0), (.mv, 1), (.mv, 2), (.mv, 3), (.mv, 4), (.mv, 5), (.mv, 6), (.mv, 7), (.mv, 8), (.mv, 9), (.mv, 10), (.mv, 11), (.mv, 12), (.mv, 13), (.mv, 14), (.mv, 15), (.mv, 16), (.mv, 17), (.mv, 18), (.mv, 19), (.mv, 20), (.mv, 21), (.mv, 22), (.mv, 23), (.mv, 24), (.mv, 25), (.fin, 26), (.fin, 27)] (by decide +kernel) _ (List.Sublist.refl _) ?_
             refine gm rfl rfl rfl rfl ?_
             refine gm rfl rfl rfl rfl ?_
             (first | refine gr_rd rfl rfl rfl (rd_add32 rfl rfl) ?_ | refine gr_rd rfl rfl rfl (rd_add rfl rfl rfl) ?_)
             refine gm rfl rfl rfl rfl ?_
             refine gr_rd rfl rfl rfl (rd_indexS Tryd.underlying131 Tryd.sizeOf135 rfl rfl (by first | rfl | assumption) (by omega) (by omega)) ?_
             refine gr_rd rfl rfl rfl (rd_load1 Tryd.to135 rfl cel at1) ?_
             refine gm rfl rfl rfl rfl ?_
             refine gr_rd rfl rfl rfl (rd_indexS Tryd.underlying131 Tryd.sizeOf135 rfl rfl (by first | rfl | assumption) (by omega) (by omega)) ?_
             refine gr_rd rfl rfl rfl (rd_load1 Tryd.to135 rfl cel at1) ?_
             refine gm rfl rfl rfl rfl ?_
             refine gr_rd rfl rfl rfl (rd_indexS Tryd.underlying131 Tryd.sizeOf135 rfl rfl (by first | rfl | assumption) (by omega) (by omega)) ?_
             refine gr_rd rfl rfl rfl (rd_load1 Tryd.to135 rfl cel at1) ?_
             refine gm rfl rfl rfl rfl ?_
             refine gr_rd rfl rfl rfl (rd_indexS Tryd.underlying131 Tryd.sizeOf135 rfl rfl (by first | rfl | assumption) (by omega) (by omega)) ?_
             refine gr_rd rfl rfl rfl (rd_load1 Tryd.to135 rfl cel at1) ?_
             refine gm rfl rfl rfl rfl ?_
             (first | refine gr_rd rfl rfl rfl (rd_add32 rfl rfl) ?_ | refine gr_rd rfl rfl rfl (rd_add rfl rfl rfl) ?_)
             refine gm rfl rfl rfl rfl ?_
             refine gr_rd rfl rfl rfl (rd_indexS Tryd.underlying131 Tryd.sizeOf135 rfl rfl (by first | rfl | assumption) (by omega) (by omega)) ?_
             refine gr_rd rfl rfl rfl (rd_load1 Tryd.to135 rfl cel at1) ?_
             refine gm rfl rfl rfl rfl ?_
             refine gr_rd rfl rfl rfl (rd_indexS Tryd.underlying131 Tryd.sizeOf135 rfl rfl (by first | rfl | assumption) (by omega) (by omega)) ?_
             refine gr_rd rfl rfl rfl (rd_load1 Tryd.to135 rfl cel at1) ?_
             refine gm rfl rfl rfl rfl ?_
             refine gr_rd rfl rfl rfl (rd_indexS Tryd.underlying131 Tryd.sizeOf135 rfl rfl (by first | rfl | assumption) (by omega) (by omega)) ?_
             refine gr_rd rfl rfl rfl (rd_load1 Tryd.to135 rfl cel at1) ?_
             refine gr_fin rfl rfl rfl (nx_slice1 (vs := [_, _, _, _, _, _, _, _]) Tryd.underlying131 Tryd.sizeOf135 Tryd.zeroValue135 rfl rfl rfl (by first | exact oneCells_of_all rfl | assumption) rfl rfl) ?_; rintro _ _ _ _ ⟨b249, rfl, rfl, rfl⟩
             refine gr_fin rfl rfl rfl (Rd.nx (rd_assign rfl)) ?_; rintro _ _ _ _ ⟨rfl, rfl, rfl⟩
             refine gr_nil ?_
             refine gk_inBlock ?_
             refine gk_then ?_
             refine gc_seqr [(.mv, 0), (.mv, 1), (.mv, 2)] rfl ?_
             refine gm rfl rfl rfl rfl ?_
             (first | refine gr_rd rfl rfl rfl (rd_add rfl rfl (IntWalk.i64_in _ (by omega))) ?_ | refine gr_rd rfl rfl rfl (rd_add rfl rfl rfl) ?_)
             refine ga rfl rfl rfl rfl ?_
             refine gr_nil ?_
             refine gk_drop (L' := [(b249, .cells ((roundsTo hv W (i + 1)).map w32).toArray 135 (0, 0))] ++ (bw, .cells (W.map w32).toArray 135 (0, 0)) :: (C3 ++ (bk, .cells (roundK.map w32).toArray 135 (0, 0)) :: (bh, .cells (hv.map w32).toArray 135 (0, 0)) :: (b2, .cells (List.replicate 32 (u8v 0)).toArray 34 (0, 0)) :: L)) (by rw [roundsTo, hr]; exact List.Sublist.cons_cons _ (List.sublist_append_right _ _)) ?_
             refine gk_round (i + 1, _, _) ?_ ⟨rfl, rfl, by simp only; omega, Ow.new (by simp [roundsTo_length _ _ hv8])⟩ sbs
             show 64 - (i + 1) < 64 - i
             omega
            ·have hi64 : i = 64 := by simp at hc6; omega
             subst hi64
             obtain ⟨bv, lv, rfl, hcv, hsv⟩ := ow_cells hOv (by decide)
             have hSl : hv.length = (roundsTo hv W 64).length := by rw [roundsTo_length hv W hv8, hv8]
             obtain ⟨S, hS⟩ : ∃ S, roundsTo hv W 64 = S := ⟨_, rfl⟩
             rw [hS] at hsv hmix0 hSl
             refine gc_exit ?_
             refine gk_exit_then ?_
             refine gk_exit_then ?_
             refine gk_here ?_
             refine gk_then ?_
             refine gc_seq (gc_seqr [(.mv, 0), (.mv, 1), (.mv, 2)] rfl ?_)
             refine gm rfl rfl rfl rfl ?_
             refine gr_rd rfl rfl rfl (rd_lenS Tryd.underlying131 rfl) ?_
             refine gm rfl rfl rfl rfl ?_
             refine gr_nil (gk_then ?_)
             refine gc_block ?_
             refine gc_loop (fun i : Nat => [(2, pt b2 0), (3, .slice (some ⟨bh, 0, none⟩) 8 8), (4, .slice (some ⟨bk, 0, none⟩) 64 64), (5, .slice (some ⟨bb, 0, none⟩) (padded s).length cap2), (8, i64 ((64 * k : Nat) : Int)), (15, .slice (some ⟨bv, 0, none⟩) 8 capv), (251, i64 8), (252, i64 i)]) (fun i H1 L1 => H = H1 ∧ Cv ++ (bw, .cells (W.map w32).toArray 135 (0, 0)) :: (C3 ++ (bk, .cells (roundK.map w32).toArray 135 (0, 0)) :: (bh, .cells ((addTo hv S i).map w32).toArray 135 (0, 0)) :: (b2, .cells (List.replicate 32 (u8v 0)).toArray 34 (0, 0)) :: L) = L1 ∧ i ≤ 8) (fun i => 8 - i) (0) ?_ sbs ?_
             ·exact ⟨rfl, rfl, Nat.zero_le _⟩
             ·rintro i H1 L1 ⟨rfl, rfl, hi⟩
              refine gc_seq (gc_seqr [(.mv, 0)] rfl ?_)
              refine gr_rd rfl rfl rfl (rd_lss rfl rfl) ?_
              refine gr_nil (gk_then ?_)
              refine gc_seq ?_
              refine gc_cond rfl (fun hc7 => ?_) (fun hc7 => ?_)
              ·have hi8 : i < 8 := by simp at hc7; omega
               have hxi : lv[0 + ((i : Int).toNat) * 1]? = some (w32 (S.getD i 0)) := by
                 rw [show 0 + ((i : Int).toNat) * 1 = i by omega]; exact hsv i (by omega)
               have hclv := hcv H (Cv ++ (bw, .cells (W.map w32).toArray 135 (0, 0)) :: (C3 ++ (bk, .cells (roundK.map w32).toArray 135 (0, 0)) :: (bh, .cells ((addTo hv S i).map w32).toArray 135 (0, 0)) :: (b2, .cells (List.replicate 32 (u8v 0)).toArray 34 (0, 0)) :: L)) (fun x hx => List.mem_append_left _ hx)
               have hclh : Cells H (Cv ++ (bw, .cells (W.map w32).toArray 135 (0, 0)) :: (C3 ++ (bk, .cells (roundK.map w32).toArray 135 (0, 0)) :: (bh, .cells ((addTo hv S i).map w32).toArray 135 (0, 0)) :: (b2, .cells (List.replicate 32 (u8v 0)).toArray 34 (0, 0)) :: L)) bh ((addTo hv S i).map w32) := Cells.own (List.mem_append_right _ (List.mem_cons_of_mem _ (List.mem_append_right _ (List.mem_cons_of_mem _ List.mem_cons_self))))
               refine gc_skip ?_
               refine gk_then ?_
               refine gc_seq ?_
               refine gc_block ?_
               refine gc_seq (gc_seqr [(.mv, 0), (.mv, 1)] rfl ?_)
               refine gm rfl rfl rfl rfl ?_
               refine ga rfl rfl rfl rfl ?_
               refine gr_nil (gk_then ?_)
               refine gc_draw Tryd.mixed [(.mv, 0), (.mv, 1), (.mv, 2), (.mv, 3), (.mv, 4), (.mv, 5), (.mv, 6), (.mv, 7), (.mv, 8), (.mv, 9), (.mv, 10), (.mv, 11), (.fin, 12)] (by decide +kernel) _ (List.Sublist.refl _) ?_
               refine gm rfl rfl rfl rfl ?_
               refine gm rfl rfl rfl rfl ?_
               refine gm rfl rfl rfl rfl ?_
               refine gm rfl rfl rfl rfl ?_
               refine gr_rd rfl rfl rfl (rd_indexS Tryd.underlying131 Tryd.sizeOf135 rfl rfl (by first | rfl | assumption) (by omega) (by omega)) ?_
               refine gr_rd rfl rfl rfl (rd_load1 Tryd.to135 rfl hclh (w32_at2 (addTo hv S i) (j := i) (by rw [addTo_length hSl]; omega) rfl)) ?_
               refine gm rfl rfl rfl rfl ?_
               refine gm rfl rfl rfl rfl ?_
               refine gr_rd rfl rfl rfl (rd_indexS Tryd.underlying131 Tryd.sizeOf135 rfl rfl (by first | rfl | assumption) (by omega) (by omega)) ?_
               refine gr_rd rfl rfl rfl (rd_load1 Tryd.to135 rfl hclv hxi) ?_
               (first | refine gr_rd rfl rfl rfl (rd_add32 rfl rfl) ?_ | refine gr_rd rfl rfl rfl (rd_add rfl rfl rfl) ?_)
               refine gr_rd rfl rfl rfl (rd_indexS Tryd.underlying131 Tryd.sizeOf135 rfl rfl (by first | rfl | assumption) (by omega) (by omega)) ?_
               refine gr_fin0 rfl rfl (nx_store (vs := [_]) Tryd.sizeOf135 rfl rfl rfl rfl (Upd.app (Upd.there (Upd.app (Upd.there Upd.here)))) (by simp [addTo_length hSl]; omega) (oneCells_of_all rfl)) ?_; rintro _ _ _ _ ⟨rfl, rfl, rfl⟩
               refine gr_nil ?_
               refine gk_inBlock ?_
               refine gk_then ?_
               refine gc_seqr [(.mv, 0), (.mv, 1)] rfl ?_
               (first | refine gr_rd rfl rfl rfl (rd_add rfl rfl (IntWalk.i64_in _ (by omega))) ?_ | refine gr_rd rfl rfl rfl (rd_add rfl rfl rfl) ?_)
               refine gm rfl rfl rfl rfl ?_
               refine gr_nil ?_
               refine gk_round (i + 1) (by omega) ⟨rfl, ?_, by omega⟩ sbs
               rw [addTo_at hSl (by omega), addTo_next hSl (by omega)]
              ·have hi8 : i = 8 := by simp at hc7; omega
               subst hi8
               have hall : addTo hv S 8 = mixH hv p := by rw [hmix0, ← hv8]; exact addTo_all hSl
               rw [hall]
               refine gc_exit ?_
               refine gk_exit_then ?_
               refine gk_exit_then ?_
               refine gk_here ?_
               refine gk_inBlock ?_
               refine gk_then ?_
               refine gc_seqr [(.mv, 0), (.mv, 1), (.mv, 2)] rfl ?_
               refine gm rfl rfl rfl rfl ?_
               (first | refine gr_rd rfl rfl rfl (rd_add rfl rfl (IntWalk.i64_in _ (by omega))) ?_ | refine gr_rd rfl rfl rfl (rd_add rfl rfl rfl) ?_)
               refine ga rfl rfl rfl rfl ?_
               refine gr_nil ?_
               refine gk_drop (L' := C3 ++ (bk, .cells (roundK.map w32).toArray 135 (0, 0)) :: (bh, .cells ((mixH hv p).map w32).toArray 135 (0, 0)) :: (b2, .cells (List.replicate 32 (u8v 0)).toArray 34 (0, 0)) :: L) sbl ?_
               refine gk_round (k + 1, fu - 1, mixH hv p) ?_ ?_ (by refine Subs.cons rfl (Subs.cons rfl (Subs.cons rfl (Subs.cons rfl (Subs.cons ?_ Subs.nil)))); simp only [find, cond] <;> (congr 2 <;> omega))
               · show (padded s).length - 64 * (k + 1) < (padded s).length - 64 * k
                 omega
               · refine ⟨rfl, rfl, by simp only; omega, mixH_length _ _ hv8, by simp only; omega, ?_⟩
                 simp only
                 rw [← hbl, show fu = (fu - 1) + 1 by omega, blocksH_step hne, List.drop_drop, hp]; rfl
      ·have hk64 : 64 * k = (padded s).length := by simp at hc2; omega
       rw [hk64, List.drop_length, blocksH_nil] at hbl
       refine gc_exit ?_
       refine gk_exit_then ?_
       refine gk_exit_then ?_
       refine gk_here ?_
       refine gk_then ?_
       refine gc_seq (gc_seqr [(.nm, 0)] rfl ?_)
       refine gr_nx rfl rfl rfl (nx_alloc Tryd.zeroValue34 rfl) ?_; rintro _ _ _ _ ⟨b20, rfl, rfl, rfl⟩; refine ⟨trivial, ?_⟩
       refine gr_nil (gk_then ?_)
       refine gc_seq ?_
       refine gc_seq (gc_seqr [(.mv, 0)] rfl ?_)
       refine gm rfl rfl rfl rfl ?_
       refine gr_nil (gk_then ?_)
       refine gc_block ?_
       refine gc_loop (fun i : Nat => [(2, pt b2 0), (3, .slice (some ⟨bh, 0, none⟩) 8 8), (20, pt b20 0), (268, i64 i)]) (fun i H1 L1 => H = H1 ∧ (b20, .cells (((outB hv).take i ++ List.replicate (32 - i) 0).map u8v).toArray 34 (0, 0)) :: (C3 ++ (bk, .cells (roundK.map w32).toArray 135 (0, 0)) :: (bh, .cells (hv.map w32).toArray 135 (0, 0)) :: (b2, .cells (List.replicate 32 (u8v 0)).toArray 34 (0, 0)) :: L) = L1 ∧ i ≤ 32) (fun i => 32 - i) (0) ?_ sbs ?_
       ·exact ⟨rfl, rfl, Nat.zero_le _⟩
       ·rintro i H1 L1 ⟨rfl, rfl, hi⟩
        refine gc_seq (gc_seqr [(.mv, 0)] rfl ?_)
        refine gr_rd rfl rfl rfl (rd_lss rfl rfl) ?_
        refine gr_nil (gk_then ?_)
        refine gc_seq ?_
        refine gc_cond rfl (fun hc8 => ?_) (fun hc8 => ?_)
        ·have hi32 : i < 32 := by simp at hc8; omega
         have hclh : Cells H ((b20, .cells (((outB hv).take i ++ List.replicate (32 - i) 0).map u8v).toArray 34 (0, 0)) :: (C3 ++ (bk, .cells (roundK.map w32).toArray 135 (0, 0)) :: (bh, .cells (hv.map w32).toArray 135 (0, 0)) :: (b2, .cells (List.replicate 32 (u8v 0)).toArray 34 (0, 0)) :: L)) bh (hv.map w32) := Cells.own (List.mem_cons_of_mem _ (List.mem_append_right _ (List.mem_cons_of_mem _ List.mem_cons_self)))
         refine gc_skip ?_
         refine gk_then ?_
         refine gc_seq ?_
         refine gc_block ?_
         refine gc_seq (gc_seqr [(.mv, 0), (.mv, 1)] rfl ?_)
         refine gm rfl rfl rfl rfl ?_
         refine ga rfl rfl rfl rfl ?_
         refine gr_nil (gk_then ?_)
         refine gc_seqr [(.mv, 0), (.mv, 1), (.mv, 2), (.mv, 3), (.mv, 4), (.mv, 5), (.mv, 6), (.mv, 7), (.mv, 8), (.mv, 9), (.mv, 10), (.mv, 11), (.mv, 12), (.mv, 13), (.nm, 14)] rfl ?_
         refine gm rfl rfl rfl rfl ?_
         refine gm rfl rfl rfl rfl ?_
         refine gm rfl rfl rfl rfl ?_
         refine gr_rd rfl rfl rfl (rd_quo rfl rfl (by omega) (r := ((i / 4 : Nat) : Int)) (by rw [IntWalk.i64_quo _ _ (by omega)]; omega)) ?_
         refine gr_rd rfl rfl rfl (rd_indexS Tryd.underlying131 Tryd.sizeOf135 rfl rfl (by first | rfl | assumption) (by omega) (by omega)) ?_
         refine gr_rd rfl rfl rfl (rd_load1 Tryd.to135 rfl hclh (w32_at2 hv (j := i / 4) (by omega) rfl)) ?_
         refine gm rfl rfl rfl rfl ?_
         refine gr_rd rfl rfl rfl (rd_rem rfl rfl (by omega) (r := ((i % 4 : Nat) : Int)) (by rw [Int.tmod_eq_emod_of_nonneg (by omega)]; omega)) ?_
         (first | refine gr_rd rfl rfl rfl (rd_mul rfl rfl (IntWalk.i64_in _ (by omega))) ?_ | refine gr_rd rfl rfl rfl (rd_mul rfl rfl rfl) ?_)
         (first | refine gr_rd rfl rfl rfl (rd_sub rfl rfl (IntWalk.i64_in _ (by omega))) ?_ | refine gr_rd rfl rfl rfl (rd_sub rfl rfl rfl) ?_)
         refine gr_rd rfl rfl rfl (rd_convInt Tryd.underlying3 Tryd.underlying39 rfl (r := ((24 - 8 * (i % 4) : Nat) : Int)) (by rw [IntKind.wrap_u64]; omega)) ?_
         refine gr_rd rfl rfl rfl (rd_shr32 (k := 24 - 8 * (i % 4)) (by omega) rfl rfl rfl) ?_
         refine gr_rd rfl rfl rfl (rd_conv32_8 Tryd.underlying135 Tryd.underlying5 rfl) ?_
         refine gr_rd rfl rfl rfl (rd_indexA Tryd.underlying34 Tryd.sizeOf5 rfl rfl (by omega) (by omega)) ?_
         refine gr_nx0 rfl rfl (nx_store (vs := [_]) Tryd.sizeOf5 rfl rfl rfl rfl Upd.here (by simp [outB_length, hv8] <;> omega) (oneCells_of_all rfl)) ?_; rintro _ _ _ _ ⟨rfl, rfl, rfl⟩; refine ⟨trivial, ?_⟩
         refine gr_nil ?_
         refine gk_inBlock ?_
         refine gk_then ?_
         refine gc_seqr [(.mv, 0), (.mv, 1)] rfl ?_
         (first | refine gr_rd rfl rfl rfl (rd_add rfl rfl (IntWalk.i64_in _ (by omega))) ?_ | refine gr_rd rfl rfl rfl (rd_add rfl rfl rfl) ?_)
         refine gm rfl rfl rfl rfl ?_
         refine gr_nil ?_
         refine gk_round (i + 1) (by omega) ⟨rfl, ?_, by omega⟩ sbs
         rw [← outB_step hv8 hi32]
        ·have hi32 : i = 32 := by simp at hc8; omega
         subst hi32
         have hout : ((outB hv).take 32 ++ List.replicate (32 - 32) 0).map u8v = encId (sha s) := by
           rw [List.take_of_length_le (by rw [outB_length]; omega), hbl]
           simp [encId, sha, shaB]
         rw [hout]
         refine gc_exit ?_
         refine gk_exit_then ?_
         refine gk_exit_then ?_
         refine gk_here ?_
         refine gk_then ?_
         refine gc_seq (gc_seqr [(.mv, 0), (.nm, 1)] rfl ?_)
         refine gr_rd rfl rfl rfl (rd_loadA Tryd.ta34 rfl ⟨_, _, .inr List.mem_cons_self⟩ (Seg.all _) (encId_length _)) ?_
         refine gr_nx0 rfl rfl (nx_store (vs := encId (sha s)) Tryd.sizeOf34 rfl rfl rfl (encId_length _) (Upd.there (Upd.app (Upd.there (Upd.there Upd.here)))) (by simp) (encId_ones _)) ?_; rintro _ _ _ _ ⟨rfl, rfl, rfl⟩; refine ⟨trivial, ?_⟩
         have hwr : wr (List.replicate 32 (u8v 0)) 0 (encId (sha s)) = encId (sha s) := by simp [wr]
         rw [hwr]
         refine gr_drop (L' := [(b2, .cells (encId (sha s)).toArray 34 (0, 0))] ++ L) (List.Sublist.cons _ ((List.Sublist.cons _ (List.Sublist.cons _ (List.Sublist.refl _))).trans (List.sublist_append_right _ _))) ?_
         refine gr_nil (gk_then ?_)
         refine gc_ret ?_
         refine gk_result (L' := L) (.inl rfl) _ (resC1 rfl rfl Tryd.ta34 cel sg lnk) sbl gle ?_
         exact ⟨rfl, rfl, rfl⟩
end Go.Proofs.YtfhldfjknagidaaDoor

/-
  Walks: digests of lists, operations as bytes, names.
-/
set_option linter.unusedSimpArgs false
set_option linter.unusedVariables false
set_option linter.unnecessarySimpa false
set_option linter.all false
namespace Go.Proofs.YtfhldfjknagidaaDoor
open Go.VK Go.Tr
set_option maxRecDepth 20000
attribute [local irreducible] Go.Tr.sha
theorem wr_all {l vs : List Value} (h : l.length ≤ vs.length) : wr l 0 vs = vs := by
  rw [wr, List.drop_eq_nil_of_le (by omega)]; simp
theorem strs_new {H : Gh} {L : Chunks} {b n : Nat} {T : TypeId} {z : Nat × Nat} {ls : List Bs} (hn : ls.length = n) (hlt : n < 4611686018427387904) (hm : (b, Obj.cells (ls.map str).toArray T z) ∈ L) :
    Strs H L (.slice (some ⟨b, 0, none⟩) n n) ls := by
  subst hn
  refine ⟨_, b, 0, _, _, rfl, Nat.le_refl _, hlt, (fun h => by cases h), fun _ => ⟨rfl, Cells.own hm⟩, fun j x hx i v hi => ?_⟩
  obtain ⟨rfl, rfl⟩ : i = 0 ∧ v = str x := by
    cases i with
    | zero => simpa using hi.symm
    | succ i => simp at hi
  simp [hx]
theorem strs_ow {H : Gh} {L : Chunks} {C : Chunks} {e n : Nat} {v : Value} {ls : List Bs} (hO : Ow e 1 C v n (ls.map str)) (hn : ls.length = n) (hlt : n < 4611686018427387904) (hC : ∀ x ∈ C, x ∈ L) : Strs H L v ls := by
  obtain ⟨a, cap, rfl, hcap⟩ := hO.slice
  subst hn
  by_cases h0 : ls.length = 0
  · have : ls = [] := List.length_eq_zero_iff.1 h0
    subst this
    exact ⟨a, 0, 0, cap, [], rfl, hcap, hlt, fun ha => ⟨rfl, (hO.notnil ha).2⟩, fun h => absurd rfl h, fun j x hx => by simp at hx⟩
  · obtain ⟨b, l, rfl, h1, h2⟩ := hO.elem h0
    refine ⟨_, b, 0, cap, l, rfl, hcap, hlt, (fun h => by cases h), fun _ => ⟨rfl, h1 H L hC⟩, fun j x hx i v hi => ?_⟩
    obtain ⟨rfl, rfl⟩ : i = 0 ∧ v = str x := by
      cases i with
      | zero => simpa using hi.symm
      | succ i => simp at hi
    have := h2 j (str x) (by simp [hx])
    simpa using this
theorem src_strs {P : Program} {H : Gh} {L : Chunks} {v : Value} {ls : List Bs} (h : Strs H L v ls) : Src P H L 1 v ls.length (ls.map str) := by
  obtain ⟨A, b, o, c, l, rfl, hc, hn, h0, h1, h2⟩ := h
  refine src_slice (b := b) (o := o) (l := l) (by simp) (fun u hu => ?_) (fun ha => by simp [(h0 ha).1]) (fun _ hne => ?_)
  · obtain ⟨x, _, rfl⟩ := List.mem_map.1 hu; rfl
  · have hne' : ls ≠ [] := fun e => hne (by simp [e])
    refine ⟨(h1 hne').1, (h1 hne').2, fun j u hu => ?_⟩
    rw [List.getElem?_map] at hu
    cases hx : ls[j]? with
    | none => rw [hx] at hu; cases hu
    | some x =>
      rw [hx] at hu; cases hu
      have := h2 j x hx 0 (str x) rfl
      simpa using this
theorem rd_idStr {P : Program} {E : Env} {H : Gh} {L : Chunks} {T T' e t : TypeId} {x : Operand} {b o : Nat} {l : List Value} (d : Nm) (hs : P.underlying T = some (.slice e)) (hd : P.underlying T' = some .string) (he : P.underlying e = some (.int .u8))
    (hx : ev E x = some (.slice (some ⟨b, o, none⟩) 32 32)) (hc : Cells H L b l) (hsg : Seg l o (encId d)) : Rd P E H L (.convert T T' x) t (str d.bytes) :=
  rd_convStr hs hd he hx d.len (fun _ _ => ⟨rfl, hc, hsg⟩) (fun h => by cases h)
theorem src_id {P : Program} {H : Gh} {L : Chunks} {b o : Nat} {l : List Value} (d : Nm) (hc : Cells H L b l) (hsg : Seg l o (encId d)) : Src P H L 1 (.slice (some ⟨b, o, none⟩) 32 32) 32 (encId d) :=
  src_slice (b := b) (o := o) (l := l) (encId_length _) (encId_ones _) (fun h => by cases h) (fun _ _ => ⟨rfl, hc, hsg⟩)
theorem listB4_len (a b c d : Bs) : (listB [a, b, c, d]).length ≤ 50 + a.length + b.length + c.length + d.length := by
  have h0 := numB_len ([a, b, c, d] : List Bs).length
  have h1 := numB_len a.length
  have h2 := numB_len b.length
  have h3 := numB_len c.length
  have h4 := numB_len d.length
  simp only [listB, textB, List.length_cons, List.length_nil, List.flatMap_cons, List.flatMap_nil, List.append_nil, List.length_append] at *
  omega
theorem listB2_len (a b : Bs) : (listB [a, b]).length ≤ 30 + a.length + b.length := by
  have h0 := numB_len ([a, b] : List Bs).length
  have h1 := numB_len a.length
  have h2 := numB_len b.length
  simp only [listB, textB, List.length_cons, List.length_nil, List.flatMap_cons, List.flatMap_nil, List.append_nil, List.length_append] at *
  omega
/-- A draft that fits: numbers of 64 bits, texts not too long. -/
structure SmallD (d : Draft) : Prop where
  kind : d.kind < 9223372036854775808
  key : d.key.length < 4294967296
  value : d.value.length < 4294967296
structure SmallO (o : POp) : Prop where
  draft : SmallD o.draft
  author : o.author < 9223372036854775808
  depth : o.depth < 9223372036854775808
  preds : o.preds.length < 16777216
theorem draftB_len {d : Draft} (h : SmallD d) : (draftB d).length < 8589934692 := by
  have h1 := listB4_len (numB d.kind.toNat) d.key d.value d.ref.bytes
  have h2 := numB_len d.kind.toNat
  have h3 := d.ref.len
  have := h.key
  have := h.value
  unfold draftB
  omega
theorem predsB_len (l : List Nm) : (l.flatMap (·.bytes)).length = 32 * l.length := by
  induction l with
  | nil => rfl
  | cons x r ih => have := x.len; simp at ih ⊢; omega
theorem opB_len {o : POp} (h : SmallO o) : (opB o).length < 9126806000 := by
  have h1 := listB4_len (numB o.author.toNat) (numB o.depth.toNat) (o.preds.flatMap (·.bytes)) (draftB o.draft)
  have h2 := numB_len o.author.toNat
  have h3 := numB_len o.depth.toNat
  have h4 := draftB_len h.draft
  have h5 := predsB_len o.preds
  have := h.preds
  unfold opB
  omega
theorem preds_take (l : List Nm) (k : Nat) (h : k < l.length) : (l.take (k + 1)).flatMap (·.bytes) = (l.take k).flatMap (·.bytes) ++ l[k].bytes := by
  rw [List.take_add_one, List.getElem?_eq_getElem h]
  simp only [List.flatMap_append, Option.toList_some, List.flatMap_cons, List.flatMap_nil, List.append_nil]
theorem preds_take_len (l : List Nm) (k : Nat) : ((l.take k).flatMap (·.bytes)).length ≤ 32 * l.length := by
  rw [predsB_len, List.length_take]; omega

theorem sum_cc (H : Gh) (hG : Glob H) (L : Chunks) (purpose : Bs) (v : Value) (parts : List Bs) (hv : Strs H L v parts) (hb : (listB (purpose :: parts)).length < 549755813888) (hpl : parts.length < 1099511627776) :
    CC Tryd.prog 72 #[str purpose, v] H L (fun u H' L' => u = ag (encId (sum purpose parts)) ∧ H = H' ∧ L = L') := by
 refine cc_of Tryd.func72 rfl (Nat.le_of_ble_eq_true rfl) ?_
 simp only [Tryd.ntmps72]
 refine gc_seq (gc_seqr [(.nm, 0)] rfl ?_)
 refine gr_nx rfl rfl rfl (nx_alloc Tryd.zeroValue34 rfl) ?_; rintro _ _ _ _ ⟨b4, rfl, rfl, rfl⟩; refine ⟨trivial, ?_⟩
 refine gr_nil (gk_then ?_)
 refine gc_seq (gc_seqr [(.mv, 0), (.nm, 1), (.mv, 2), (.nm, 3), (.nm, 4), (.nm, 5), (.nm, 6)] rfl ?_)
 refine gm rfl rfl rfl rfl ?_
 refine gr_nx rfl rfl rfl (nx_slice1 (vs := [_]) Tryd.underlying69 Tryd.sizeOf9 Tryd.zeroValue9 rfl rfl rfl (by first | exact oneCells_of_all rfl | assumption) rfl rfl) ?_; rintro _ _ _ _ ⟨b6, rfl, rfl, rfl⟩; refine ⟨trivial, ?_⟩
 refine gm rfl rfl rfl rfl ?_
 refine gr_nx rfl rfl rfl (nx_append Tryd.app69_69 rfl rfl (Ow.new (b := b6) (e := 9) (k := 1) (n := 1) (cs := [str purpose]) rfl) pik (src_strs (hv.mono (Gh.le_refl _) (fun x hx => List.mem_cons_of_mem _ (List.mem_cons_of_mem _ hx)))) (by omega) (by omega)) ?_; rintro v8 H' L' hle ⟨C1, hO1, _, rfl, rfl⟩; refine ⟨trivial, ?_⟩
 refine gr_nx rfl rfl rfl (nx_call Tryd.en92 rfl (list_cc _ _ _ (purpose :: parts) (strs_ow (ls := purpose :: parts) (n := 1 + parts.length) hO1 (by simp; omega) (by omega) (fun x hx => List.mem_append_left _ hx)) (by omega))) ?_; rintro v9 H' L' hle ⟨rfl, rfl, rfl⟩; refine ⟨trivial, ?_⟩
 refine gr_nx rfl rfl rfl (nx_call Tryd.en91 rfl (of_cc _ hG _ _ hb)) ?_; rintro v10 H' L' hle ⟨rfl, rfl, rfl⟩; refine ⟨trivial, ?_⟩
 refine gr_nx0 rfl rfl (nx_store (vs := encId (sum purpose parts)) Tryd.sizeOf34 rfl rfl rfl (encId_length _) (Upd.app Upd.here) (by simp) (encId_ones _)) ?_; rintro _ _ _ _ ⟨rfl, rfl, rfl⟩; refine ⟨trivial, ?_⟩
 rw [wr_all (by rw [encId_length]; exact Nat.le_refl _)]
 refine gr_drop (L' := [(b4, .cells (encId (sum purpose parts)).toArray 34 (0, 0))] ++ L) (List.sublist_append_right _ _) ?_
 refine gr_nil (gk_then ?_)
 refine gc_ret ?_
 refine gk_result (L' := L) (.inl rfl) _ (resC1 rfl rfl Tryd.ta34 cel sg lnk) sbl gle ?_
 exact ⟨rfl, rfl, rfl⟩
theorem rsum_cc (H : Gh) (L : Chunks) (purpose : Bs) (v : Value) (parts : List Bs) (hv : Strs H L v parts) (hb : (listB (purpose :: parts)).length < 549755813888) (hpl : parts.length < 1099511627776) :
    CC Tryd.prog 51 #[str purpose, v] H L (fun u H' L' => u = ag (encId (sum purpose parts)) ∧ H = H' ∧ L = L') := by
 refine cc_of Tryd.func51 rfl (Nat.le_of_ble_eq_true rfl) ?_
 simp only [Tryd.ntmps51]
 refine gc_seq (gc_seqr [(.nm, 0)] rfl ?_)
 refine gr_nx rfl rfl rfl (nx_alloc Tryd.zeroValue34 rfl) ?_; rintro _ _ _ _ ⟨b4, rfl, rfl, rfl⟩; refine ⟨trivial, ?_⟩
 refine gr_nil (gk_then ?_)
 refine gc_seq (gc_seqr [(.mv, 0), (.nm, 1), (.mv, 2), (.nm, 3), (.nm, 4), (.nm, 5), (.nm, 6)] rfl ?_)
 refine gm rfl rfl rfl rfl ?_
 refine gr_nx rfl rfl rfl (nx_slice1 (vs := [_]) Tryd.underlying69 Tryd.sizeOf9 Tryd.zeroValue9 rfl rfl rfl (by first | exact oneCells_of_all rfl | assumption) rfl rfl) ?_; rintro _ _ _ _ ⟨b6, rfl, rfl, rfl⟩; refine ⟨trivial, ?_⟩
 refine gm rfl rfl rfl rfl ?_
 refine gr_nx rfl rfl rfl (nx_append Tryd.app69_69 rfl rfl (Ow.new (b := b6) (e := 9) (k := 1) (n := 1) (cs := [str purpose]) rfl) pik (src_strs (hv.mono (Gh.le_refl _) (fun x hx => List.mem_cons_of_mem _ (List.mem_cons_of_mem _ hx)))) (by omega) (by omega)) ?_; rintro v8 H' L' hle ⟨C1, hO1, _, rfl, rfl⟩; refine ⟨trivial, ?_⟩
 refine gr_nx rfl rfl rfl (nx_call Tryd.en78 rfl (rlist_cc _ _ _ (purpose :: parts) (strs_ow (ls := purpose :: parts) (n := 1 + parts.length) hO1 (by simp; omega) (by omega) (fun x hx => List.mem_append_left _ hx)) (by omega))) ?_; rintro v9 H' L' hle ⟨rfl, rfl, rfl⟩; refine ⟨trivial, ?_⟩
 refine gr_nx rfl rfl rfl (nx_call Tryd.en77 rfl (rof_cc _ _ _ hb)) ?_; rintro v10 H' L' hle ⟨rfl, rfl, rfl⟩; refine ⟨trivial, ?_⟩
 refine gr_nx0 rfl rfl (nx_store (vs := encId (sum purpose parts)) Tryd.sizeOf34 rfl rfl rfl (encId_length _) (Upd.app Upd.here) (by simp) (encId_ones _)) ?_; rintro _ _ _ _ ⟨rfl, rfl, rfl⟩; refine ⟨trivial, ?_⟩
 rw [wr_all (by rw [encId_length]; exact Nat.le_refl _)]
 refine gr_drop (L' := [(b4, .cells (encId (sum purpose parts)).toArray 34 (0, 0))] ++ L) (List.sublist_append_right _ _) ?_
 refine gr_nil (gk_then ?_)
 refine gc_ret ?_
 refine gk_result (L' := L) (.inl rfl) _ (resC1 rfl rfl Tryd.ta34 cel sg lnk) sbl gle ?_
 exact ⟨rfl, rfl, rfl⟩
theorem draft_cc (H : Gh) (L : Chunks) (d : Draft) (hd : SmallD d) :
    CC Tryd.prog 94 #[ag (encDraft d)] H L (fun u H' L' => u = str (draftB d) ∧ H = H' ∧ L = L') := by
 have hlen := draftB_len hd
 have hkind := hd.kind
 refine cc_of Tryd.func94 rfl (Nat.le_of_ble_eq_true rfl) ?_
 simp only [Tryd.ntmps94]
 refine gc_seq (gc_seqr [(.nm, 0), (.mv, 1)] rfl ?_)
 refine gr_nx rfl rfl rfl (nx_box rfl rfl) ?_; rintro _ _ _ _ ⟨b1, rfl, rfl, rfl⟩; refine ⟨trivial, ?_⟩
 refine ga rfl rfl rfl rfl ?_
 refine gr_nil (gk_then ?_)
 refine gc_seq ?_
 refine gc_draw Tryd.mixed [(.mv, 0), (.mv, 1), (.mv, 3), (.mv, 4), (.mv, 5), (.mv, 6), (.mv, 7), (.mv, 8), (.mv, 9), (.nm, 2), (.fin, 10), (.fin, 11), (.fin, 12)] (by decide +kernel) _ (List.Sublist.refl _) ?_
 refine gr_rd rfl rfl rfl (rd_fieldAddr Tryd.fa36_0 rfl) ?_
 refine gr_rd rfl rfl rfl (rd_load1 Tryd.to3 rfl cel at1) ?_
 refine gr_rd rfl rfl rfl (rd_fieldAddr Tryd.fa36_1 rfl) ?_
 refine gr_rd rfl rfl rfl (rd_load1 Tryd.to9 rfl cel at1) ?_
 refine gr_rd rfl rfl rfl (rd_fieldAddr Tryd.fa36_2 rfl) ?_
 refine gr_rd rfl rfl rfl (rd_load1 Tryd.to9 rfl cel at1) ?_
 refine gr_rd rfl rfl rfl (rd_fieldAddr Tryd.fa36_3 rfl) ?_
 refine gr_rd rfl rfl rfl (rd_sliceArr Tryd.underlying34 Tryd.sizeOf5 rfl) ?_
 refine gr_rd rfl rfl rfl (rd_idStr d.ref Tryd.underlying117 Tryd.underlying9 Tryd.underlying5 rfl (Cells.own List.mem_cons_self) (encDraft_seg_ref d)) ?_
 refine gr_nx rfl rfl rfl (nx_call Tryd.en93 rfl (num_cc _ _ _ hd.kind)) ?_; rintro v5 H' L' hle ⟨rfl, rfl, rfl⟩; refine ⟨kp, ?_⟩
 refine gr_fin rfl rfl rfl (nx_slice1 (vs := [_, _, _, _]) Tryd.underlying69 Tryd.sizeOf9 Tryd.zeroValue9 rfl rfl rfl (by first | exact oneCells_of_all rfl | assumption) rfl rfl) ?_; rintro _ _ _ _ ⟨b13, rfl, rfl, rfl⟩
 refine gr_fin rfl rfl rfl (nx_call Tryd.en92 rfl (list_cc _ _ _ [numB d.kind.toNat, d.key, d.value, d.ref.bytes] (strs_new rfl (by omega) List.mem_cons_self) (by show (draftB d).length < _; omega))) ?_; rintro v14 H' L' hle ⟨rfl, rfl, rfl⟩
 refine gr_fin rfl rfl rfl (Rd.nx (rd_assign rfl)) ?_; rintro _ _ _ _ ⟨rfl, rfl, rfl⟩
 refine gr_nil (gk_then ?_)
 refine gc_ret ?_
 refine gk_result (L' := L) (.inl rfl) _ (res1 rfl rfl) sbl gle ?_
 exact ⟨rfl, rfl, rfl⟩
theorem rdraft_cc (H : Gh) (L : Chunks) (d : Draft) (hd : SmallD d) :
    CC Tryd.prog 80 #[ag (encDraft d)] H L (fun u H' L' => u = str (draftB d) ∧ H = H' ∧ L = L') := by
 have hlen := draftB_len hd
 have hkind := hd.kind
 refine cc_of Tryd.func80 rfl (Nat.le_of_ble_eq_true rfl) ?_
 simp only [Tryd.ntmps80]
 refine gc_seq (gc_seqr [(.nm, 0), (.mv, 1)] rfl ?_)
 refine gr_nx rfl rfl rfl (nx_box rfl rfl) ?_; rintro _ _ _ _ ⟨b1, rfl, rfl, rfl⟩; refine ⟨trivial, ?_⟩
 refine ga rfl rfl rfl rfl ?_
 refine gr_nil (gk_then ?_)
 refine gc_seq ?_
 refine gc_draw Tryd.mixed [(.mv, 0), (.mv, 1), (.mv, 3), (.mv, 4), (.mv, 5), (.mv, 6), (.mv, 7), (.mv, 8), (.mv, 9), (.nm, 2), (.fin, 10), (.fin, 11), (.fin, 12)] (by decide +kernel) _ (List.Sublist.refl _) ?_
 refine gr_rd rfl rfl rfl (rd_fieldAddr Tryd.fa36_0 rfl) ?_
 refine gr_rd rfl rfl rfl (rd_load1 Tryd.to3 rfl cel at1) ?_
 refine gr_rd rfl rfl rfl (rd_fieldAddr Tryd.fa36_1 rfl) ?_
 refine gr_rd rfl rfl rfl (rd_load1 Tryd.to9 rfl cel at1) ?_
 refine gr_rd rfl rfl rfl (rd_fieldAddr Tryd.fa36_2 rfl) ?_
 refine gr_rd rfl rfl rfl (rd_load1 Tryd.to9 rfl cel at1) ?_
 refine gr_rd rfl rfl rfl (rd_fieldAddr Tryd.fa36_3 rfl) ?_
 refine gr_rd rfl rfl rfl (rd_sliceArr Tryd.underlying34 Tryd.sizeOf5 rfl) ?_
 refine gr_rd rfl rfl rfl (rd_idStr d.ref Tryd.underlying117 Tryd.underlying9 Tryd.underlying5 rfl (Cells.own List.mem_cons_self) (encDraft_seg_ref d)) ?_
 refine gr_nx rfl rfl rfl (nx_call Tryd.en79 rfl (rnum9_cc _ _ _ hd.kind)) ?_; rintro v5 H' L' hle ⟨rfl, rfl, rfl⟩; refine ⟨kp, ?_⟩
 refine gr_fin rfl rfl rfl (nx_slice1 (vs := [_, _, _, _]) Tryd.underlying69 Tryd.sizeOf9 Tryd.zeroValue9 rfl rfl rfl (by first | exact oneCells_of_all rfl | assumption) rfl rfl) ?_; rintro _ _ _ _ ⟨b13, rfl, rfl, rfl⟩
 refine gr_fin rfl rfl rfl (nx_call Tryd.en78 rfl (rlist_cc _ _ _ [numB d.kind.toNat, d.key, d.value, d.ref.bytes] (strs_new rfl (by omega) List.mem_cons_self) (by show (draftB d).length < _; omega))) ?_; rintro v14 H' L' hle ⟨rfl, rfl, rfl⟩
 refine gr_fin rfl rfl rfl (Rd.nx (rd_assign rfl)) ?_; rintro _ _ _ _ ⟨rfl, rfl, rfl⟩
 refine gr_nil (gk_then ?_)
 refine gc_ret ?_
 refine gk_result (L' := L) (.inl rfl) _ (res1 rfl rfl) sbl gle ?_
 exact ⟨rfl, rfl, rfl⟩
end Go.Proofs.YtfhldfjknagidaaDoor

/-
  What each operation gives: two byte slices compared.
-/
set_option linter.unusedSimpArgs false
set_option linter.unusedVariables false
set_option linter.unnecessarySimpa false
set_option linter.all false
namespace Go.VK
open Go.Tr Go.Lib

theorem cmp_go : ∀ (l l' : Bs), (match (List.range (min l.length l'.length)).find? fun i => l.getD i 0 != l'.getD i 0 with
    | some i => if l.getD i 0 < l'.getD i 0 then (-1 : Int) else 1
    | none => if l.length < l'.length then -1 else if l.length > l'.length then 1 else 0) = cmpB l l'
  | [], [] => rfl
  | [], b :: y => by simp [cmpB]
  | a :: x, [] => by simp [cmpB]
  | a :: x, b :: y => by
    have ih := cmp_go x y
    have hm : min (a :: x).length (b :: y).length = min x.length y.length + 1 := by simp only [List.length_cons]; omega
    rw [hm, List.range_succ_eq_map, List.find?_cons]
    by_cases hab : a = b
    · subst hab
      have e : ((a :: x).getD 0 0 != (a :: y).getD 0 0) = false := by simp
      rw [e]
      simp only [List.find?_map]
      have e2 : ((fun i => (a :: x).getD i 0 != (a :: y).getD i 0) ∘ Nat.succ) = fun i => x.getD i 0 != y.getD i 0 := by
        funext i; simp
      rw [e2]
      have hc : cmpB (a :: x) (a :: y) = cmpB x y := by simp [cmpB]
      rw [hc, ← ih]
      cases (List.range (min x.length y.length)).find? fun i => x.getD i 0 != y.getD i 0 with
      | none => simp
      | some i => simp
    · have e : ((a :: x).getD 0 0 != (b :: y).getD 0 0) = true := by simpa using hab
      rw [e]
      simp only [cmpB, List.getD_cons_zero]
      by_cases h1 : a < b
      · rw [if_pos h1, if_pos h1]
      · rw [if_neg h1, if_neg h1]
        have : b < a := by
          rw [UInt8.lt_iff_toNat_lt] at h1 ⊢
          have : a.toNat ≠ b.toNat := fun e => hab (UInt8.toNat_inj.1 e)
          omega
        rw [if_pos this]
theorem getB (l : Bs) (i : Nat) : (ByteArray.mk l.toArray)[i]! = l.getD i 0 := by
  by_cases h : i < l.length
  · have h2 : i < (ByteArray.mk l.toArray).size := by simpa [size_str] using h
    rw [getElem!_pos (ByteArray.mk l.toArray) i h2]
    simp [ByteArray.getElem_eq_getElem_data, List.getD_eq_getElem?_getD, h]
  · have h2 : ¬ i < (ByteArray.mk l.toArray).size := by simpa [size_str] using h
    rw [getElem!_neg (ByteArray.mk l.toArray) i h2]
    simp [List.getD_eq_getElem?_getD, h]
    rfl
theorem cmp_eq (l l' : Bs) : Extern.BytealgCompare.cmp ⟨l.toArray⟩ ⟨l'.toArray⟩ = cmpB l l' := by
  rw [← cmp_go]
  simp only [Extern.BytealgCompare.cmp, getB, size_str]
  rfl
theorem run_bytesOf_seg {P : Program} {w : World} {H : Gh} {L : Chunks} {b o cap : Nat} {l : List Value} {bs : Bs} (hS : Sat w H L) (hc : Cells H L b l) (hsg : Seg l o (bs.map u8v)) :
    (Extern.Bytes.bytesOf (.slice (some ⟨b, o, none⟩) bs.length cap)).run P w = .ok ⟨bs.toArray⟩ w := by
  have h := run_loadBytesX (P := P) w (bs.map fun q => (q.toNat : Int)) ⟨b, o, none⟩ .empty (fun j x hj => by
    rw [addr_add]
    refine hc.cell hS (hsg j _ ?_)
    simp only [List.getElem?_map] at hj ⊢
    cases hq : bs[j]? with
    | none => rw [hq] at hj; cases hj
    | some q => rw [hq] at hj; cases hj; rfl)
  simp only [Extern.Bytes.bytesOf]
  rw [List.length_map] at h
  rw [h]
  congr 1
  apply ByteArray.ext
  have e : ((fun n : Int => UInt8.ofNat n.toNat) ∘ fun q : UInt8 => (q.toNat : Int)) = id := by funext q; simp
  simp [Lib.bytesOf, e]
section
variable {P : Program} {E : Env} {H : Gh} {L : Chunks} {t : TypeId} {x y : Operand}
theorem rd_compare {f : FuncId} {fn : Func} {ts : Array TypeId} {b o cap b' o' cap' : Nat} {l l' : List Value} {p q : Bs} (hf : P.funcs[f]? = some fn) (hname : (fn.name == "runtime.NumGoroutine") = false) (hb : fn.body.isNone = true)
    (hn : Extern.findNext fn = none) (he : Extern.find fn = some Extern.BytealgCompare.compare) {m m' : Nat} (hm : p.length = m) (hm' : q.length = m')
    (hx : ev E x = some (.slice (some ⟨b, o, none⟩) m cap)) (hy : ev E y = some (.slice (some ⟨b', o', none⟩) m' cap'))
    (hc : Cells H L b l) (hs : Seg l o (p.map u8v)) (hc' : Cells H L b' l') (hs' : Seg l' o' (q.map u8v)) :
    Rd P E H L (.call ⟨.value (.func f), #[x, y], ts⟩) t (i64 (cmpB p q)) := fun a w n hA hS => by
  subst hm hm'
  have h1 := run_bytesOf_seg (P := P) (cap := cap) hS hc hs
  have h2 := run_bytesOf_seg (P := P) (cap := cap') hS hc' hs'
  have h3 : (Extern.BytealgCompare.compare #[.slice (some ⟨b, o, none⟩) p.length cap, .slice (some ⟨b', o', none⟩) q.length cap']).run P w = .ok (i64 (cmpB p q)) w := by
    have e5 : Extern.BytealgCompare.compare #[.slice (some ⟨b, o, none⟩) p.length cap, .slice (some ⟨b', o', none⟩) q.length cap'] = (do pure (goInt (Extern.BytealgCompare.cmp (← Extern.Bytes.bytesOf (.slice (some ⟨b, o, none⟩) p.length cap)) (← Extern.Bytes.bytesOf (.slice (some ⟨b', o', none⟩) q.length cap'))))) := rfl
    rw [e5]
    simp only [Sem.run_bind, h1, h2, Result.andThen_ok, cmp_eq]
    rfl
  have h4 := run_callFunc_extern hf hname hb hn he #[.slice (some ⟨b, o, none⟩) p.length cap, .slice (some ⟨b', o', none⟩) q.length cap'] w
  rw [h3] at h4
  have e3 : (execOp a.eval ⟨none, .call ⟨.value (.func f), #[x, y], ts⟩, t, "", #[], none⟩) = (do let d ← resolve a.eval ⟨.value (.func f), #[x, y], ts⟩ t; invoke d.target d.args) := rfl
  have e4 : a.eval (.func f) = .func (.func f) #[] #[] := rfl
  rw [e3]
  simp only [resolve, e4, Deferred.ofValue]
  simpa [invoke, hA.ev hx, hA.ev hy] using h4
end
end Go.VK

/-
  Walks: operations as bytes, their names; names compared.
-/
set_option linter.unusedSimpArgs false
set_option linter.unusedVariables false
set_option linter.unnecessarySimpa false
set_option linter.all false
namespace Go.Proofs.YtfhldfjknagidaaDoor
open Go.VK Go.Tr
set_option maxRecDepth 20000
attribute [local irreducible] Go.Tr.sha
theorem ids_at {H : Gh} {L : Chunks} {b off : Nat} {l : List Value} {a : Option Addr} {xs : List Nm} (h1 : xs ≠ [] → a = some ⟨b, off, none⟩ ∧ Cells H L b l) (h2 : ∀ j x, xs[j]? = some x → Seg l (off + j * 32) (encId x)) {j : Nat} (hj : j < xs.length) :
    a = some ⟨b, off, none⟩ ∧ Cells H L b l ∧ Seg l (off + ((j : Int).toNat) * 32) (encId xs[j]) := by
  have h := sl_at h1 h2 hj
  exact ⟨h.1, h.2.1, by rw [Int.toNat_natCast]; exact h.2.2⟩
theorem seg_id {n : Nm} : Seg (encId n) 0 (encId n) := Seg.all _
theorem cmpB_step {a b : Bs} {i : Nat} {x y : UInt8} (hx : a[i]? = some x) (hy : b[i]? = some y) : cmpB (a.drop i) (b.drop i) = if x < y then -1 else if y < x then 1 else cmpB (a.drop (i + 1)) (b.drop (i + 1)) := by
  obtain ⟨h1, h2⟩ := List.getElem?_eq_some_iff.1 hx
  obtain ⟨h3, h4⟩ := List.getElem?_eq_some_iff.1 hy
  rw [List.drop_eq_getElem_cons h1, List.drop_eq_getElem_cons h3, h2, h4]
  rfl
theorem u8_lt {x y : UInt8} : x < y ↔ (x.toNat : Int) < (y.toNat : Int) := by rw [UInt8.lt_iff_toNat_lt]; omega
theorem byteN {n : Nm} {i : Nat} (h : i < 32) : n.bytes[i]? = some (n.bytes[i]'(by rw [n.len]; exact h)) := List.getElem?_eq_getElem _
theorem cellN {n : Nm} {i : Nat} (h : i < 32) : (encId n)[0 + ((i : Int).toNat) * 1]? = some (u8v (n.bytes[i]'(by rw [n.len]; exact h))) := by
  rw [show 0 + ((i : Int).toNat) * 1 = i by omega, encId, List.getElem?_map, byteN h]; rfl
theorem nameB_len {o : POp} (h : SmallO o) : (listB [opWord, opB o]).length < 549755813888 := by
  have h1 := listB2_len opWord (opB o)
  have h2 := opB_len h
  have : opWord.length = 2 := rfl
  omega

theorem text_cc (H : Gh) (L : Chunks) (o : POp) (pv : Value) (hp : Ids H L pv o.preds) (ho : SmallO o) :
    CC Tryd.prog 73 #[ag (encOp o pv)] H L (fun u H' L' => u = str (opB o) ∧ H = H' ∧ L = L') := by
 obtain ⟨A, bv, ov, cv, lv, rfl, hcv, hnv, hv0, hv1, hv2⟩ := hp
 have hlen := opB_len ho
 have hpn := ho.preds
 refine cc_of Tryd.func73 rfl (Nat.le_of_ble_eq_true rfl) ?_
 simp only [Tryd.ntmps73]
 refine gc_seq (gc_seqr [(.nm, 0), (.mv, 1)] rfl ?_)
 refine gr_nx rfl rfl rfl (nx_box rfl rfl) ?_; rintro _ _ _ _ ⟨b1, rfl, rfl, rfl⟩; refine ⟨trivial, ?_⟩
 refine ga rfl rfl rfl rfl ?_
 refine gr_nil (gk_then ?_)
 refine gc_seq (gc_seqr [(.mv, 0)] rfl ?_)
 refine ga rfl rfl rfl rfl ?_
 refine gr_nil (gk_then ?_)
 refine gc_seq ?_
 refine gc_seq (gc_seqr [(.mv, 0), (.mv, 1), (.mv, 2), (.mv, 3)] rfl ?_)
 refine gr_rd rfl rfl rfl (rd_fieldAddr Tryd.fa38_3 rfl) ?_
 refine gr_rd rfl rfl rfl (rd_load1 Tryd.to29 rfl (by first | (apply Cells.own; (repeat (first | exact List.mem_cons_self | apply List.mem_cons_of_mem)); done) | (exact Cells.own (List.mem_append_right _ List.mem_cons_self))) at1) ?_
 refine gr_rd rfl rfl rfl (rd_lenS Tryd.underlying29 rfl) ?_
 refine gm rfl rfl rfl rfl ?_
 refine gr_nil (gk_then ?_)
 refine gc_block ?_
 refine gc_loop (fun s : Nat × Value × Chunks => [(1, pt b1 0), (3, s.2.1), (7, .slice A o.preds.length cv), (8, i64 o.preds.length), (9, i64 s.1)]) (fun s H1 L1 => H = H1 ∧ L1 = s.2.2 ++ (b1, .cells (encOp o (.slice A o.preds.length cv)).toArray 38 (0, 0)) :: L ∧ s.1 ≤ o.preds.length ∧ Ow 5 1 s.2.2 s.2.1 ((o.preds.take s.1).flatMap (·.bytes)).length (((o.preds.take s.1).flatMap (·.bytes)).map u8v)) (fun s => o.preds.length - s.1) ((0, .slice none 0 0, [])) ?_ sbs ?_
 ·exact ⟨rfl, rfl, Nat.zero_le _, Ow.nil⟩
 ·rintro ⟨k, vo, C⟩ H1 L1 ⟨rfl, rfl, hk, hO⟩
  simp only at hk hO
  show GC _ _ _ _ [(1, pt b1 0), (3, vo), (7, .slice A o.preds.length cv), (8, i64 o.preds.length), (9, i64 k)] H (C ++ (b1, .cells (encOp o (.slice A o.preds.length cv)).toArray 38 (0, 0)) :: L)
  refine gc_seq (gc_seqr [(.mv, 0)] rfl ?_)
  refine gr_rd rfl rfl rfl (rd_lss rfl rfl) ?_
  refine gr_nil (gk_then ?_)
  refine gc_seq ?_
  refine gc_cond rfl (fun hc0 => ?_) (fun hc0 => ?_)
  ·have hlt : k < o.preds.length := by simpa using hc0
   obtain ⟨hAe, hca, hsa⟩ := ids_at hv1 hv2 hlt
   have hpt := preds_take_len o.preds k
   have hca1 := Cells.mono (L' := C ++ (b1, .cells (encOp o (.slice A o.preds.length cv)).toArray 38 (0, 0)) :: L) hca (Gh.le_refl H) (by intro x hx; first | exact hx | exact List.mem_append_left _ hx | simp [baseL, hx])
   refine gc_skip ?_
   refine gk_then ?_
   refine gc_seq ?_
   refine gc_block ?_
   refine gc_seq (gc_seqr [(.mv, 0), (.mv, 1), (.nm, 2), (.nm, 3)] rfl ?_)
   refine gr_rd rfl rfl rfl (rd_indexS Tryd.underlying29 Tryd.sizeOf34 rfl rfl hAe (by omega) (by omega)) ?_
   refine gr_rd rfl rfl rfl (rd_loadA Tryd.ta34 rfl hca1 hsa (encId_length _)) ?_
   refine gr_nx rfl rfl rfl (nx_alloc Tryd.zeroValue34 rfl) ?_; rintro _ _ _ _ ⟨b5, rfl, rfl, rfl⟩; refine ⟨trivial, ?_⟩
   refine gr_nx0 rfl rfl (nx_store (vs := encId o.preds[k]) Tryd.sizeOf34 rfl rfl rfl (encId_length _) Upd.here (by simp) (encId_ones _)) ?_; rintro _ _ _ _ ⟨rfl, rfl, rfl⟩; refine ⟨trivial, ?_⟩
   rw [wr_all (by rw [encId_length]; exact Nat.le_refl _)]
   refine gr_nil (gk_then ?_)
   refine gc_seqr [(.mv, 0), (.mv, 1), (.nm, 2), (.mv, 3)] rfl ?_
   refine gm rfl rfl rfl rfl ?_
   refine gr_rd rfl rfl rfl (rd_sliceArr Tryd.underlying34 Tryd.sizeOf5 rfl) ?_
   refine gr_nx rfl rfl rfl (nx_append Tryd.app117_117 rfl rfl hO pik (src_id o.preds[k] (Cells.own List.mem_cons_self) (Seg.all _)) (by omega) (by omega)) ?_; rintro v15 H' L' hle ⟨C1, hO1, _, rfl, rfl⟩; refine ⟨trivial, ?_⟩
   refine ga rfl rfl rfl rfl ?_
   refine gr_nil ?_
   refine gk_inBlock ?_
   refine gk_then ?_
   refine gc_seqr [(.mv, 0), (.mv, 1)] rfl ?_
   (first | refine gr_rd rfl rfl rfl (rd_add rfl rfl (IntWalk.i64_in _ (by omega))) ?_ | refine gr_rd rfl rfl rfl (rd_add rfl rfl rfl) ?_)
   refine gm rfl rfl rfl rfl ?_
   refine gr_nil ?_
   refine gk_drop (L' := C1 ++ (b1, .cells (encOp o (.slice A o.preds.length cv)).toArray 38 (0, 0)) :: L) sbl ?_
   refine gk_round (k + 1, v15, C1) ?_ ?_ sbs
   · show o.preds.length - (k + 1) < o.preds.length - k
     omega
   · refine ⟨rfl, rfl, by simp only; omega, ?_⟩
     simp only
     rw [preds_take _ _ hlt]
     simpa [encId, (o.preds[k]).len] using hO1
  ·have hk2 : k = o.preds.length := by simp at hc0; omega
   subst hk2
   have hpt := predsB_len o.preds
   have hsp := ho.preds
   rw [List.take_length] at hO
   refine gc_exit ?_
   refine gk_exit_then ?_
   refine gk_exit_then ?_
   refine gk_here ?_
   refine gk_then ?_
   refine gc_seq ?_
   refine gc_draw Tryd.mixed [(.mv, 0), (.mv, 1), (.mv, 3), (.mv, 4), (.mv, 6), (.mv, 7), (.mv, 8), (.mv, 9), (.nm, 2), (.nm, 5), (.nm, 10), (.fin, 11), (.fin, 12), (.fin, 13)] (by decide +kernel) _ (List.Sublist.refl _) ?_
   refine gr_rd rfl rfl rfl (rd_fieldAddr Tryd.fa38_1 rfl) ?_
   refine gr_rd rfl rfl rfl (rd_load1 Tryd.to3 rfl (by first | (apply Cells.own; (repeat (first | exact List.mem_cons_self | apply List.mem_cons_of_mem)); done) | (exact Cells.own (List.mem_append_right _ List.mem_cons_self))) at1) ?_
   refine gr_rd rfl rfl rfl (rd_fieldAddr Tryd.fa38_2 rfl) ?_
   refine gr_rd rfl rfl rfl (rd_load1 Tryd.to3 rfl (by first | (apply Cells.own; (repeat (first | exact List.mem_cons_self | apply List.mem_cons_of_mem)); done) | (exact Cells.own (List.mem_append_right _ List.mem_cons_self))) at1) ?_
   refine gm rfl rfl rfl rfl ?_
   refine gr_rd rfl rfl rfl (rd_convOw Tryd.underlying117 Tryd.underlying9 Tryd.underlying5 rfl hO (by intro x hx; first | exact hx | exact List.mem_append_left _ hx | simp [baseL, hx])) ?_
   refine gr_rd rfl rfl rfl (rd_fieldAddr Tryd.fa38_0 rfl) ?_
   refine gr_rd rfl rfl rfl (rd_loadA Tryd.ta36 rfl (by first | exact Cells.own List.mem_cons_self | exact Cells.own (List.mem_append_right _ List.mem_cons_self)) (encOp_seg_draft o _) (encDraft_length _)) ?_
   refine gr_nx rfl rfl rfl (nx_call Tryd.en93 rfl (num_cc _ _ _ ho.author)) ?_; rintro v19 H' L' hle ⟨rfl, rfl, rfl⟩; refine ⟨kp, ?_⟩
   refine gr_nx rfl rfl rfl (nx_call Tryd.en93 rfl (num_cc _ _ _ ho.depth)) ?_; rintro v22 H' L' hle ⟨rfl, rfl, rfl⟩; refine ⟨kp, ?_⟩
   refine gr_nx rfl rfl rfl (nx_call Tryd.en94 rfl (draft_cc _ _ _ ho.draft)) ?_; rintro v27 H' L' hle ⟨rfl, rfl, rfl⟩; refine ⟨kp, ?_⟩
   refine gr_fin rfl rfl rfl (nx_slice1 (vs := [_, _, _, _]) Tryd.underlying69 Tryd.sizeOf9 Tryd.zeroValue9 rfl rfl rfl (by first | exact oneCells_of_all rfl | assumption) rfl rfl) ?_; rintro _ _ _ _ ⟨b28, rfl, rfl, rfl⟩
   refine gr_fin rfl rfl rfl (nx_call Tryd.en92 rfl (list_cc _ _ _ [numB o.author.toNat, numB o.depth.toNat, o.preds.flatMap (·.bytes), draftB o.draft] (strs_new rfl (by omega) List.mem_cons_self) (by show (opB o).length < _; omega))) ?_; rintro v29 H' L' hle ⟨rfl, rfl, rfl⟩
   refine gr_fin rfl rfl rfl (Rd.nx (rd_assign rfl)) ?_; rintro _ _ _ _ ⟨rfl, rfl, rfl⟩
   refine gr_nil (gk_then ?_)
   refine gc_ret ?_
   refine gk_result (L' := L) (.inl rfl) _ (res1 rfl rfl) sbl gle ?_
   exact ⟨rfl, rfl, rfl⟩
theorem rotext_cc (H : Gh) (L : Chunks) (o : POp) (pv : Value) (hp : Ids H L pv o.preds) (ho : SmallO o) :
    CC Tryd.prog 52 #[ag (encOp o pv)] H L (fun u H' L' => u = str (opB o) ∧ H = H' ∧ L = L') := by
 obtain ⟨A, bv, ov, cv, lv, rfl, hcv, hnv, hv0, hv1, hv2⟩ := hp
 have hlen := opB_len ho
 have hpn := ho.preds
 refine cc_of Tryd.func52 rfl (Nat.le_of_ble_eq_true rfl) ?_
 simp only [Tryd.ntmps52]
 refine gc_seq (gc_seqr [(.nm, 0), (.mv, 1)] rfl ?_)
 refine gr_nx rfl rfl rfl (nx_box rfl rfl) ?_; rintro _ _ _ _ ⟨b1, rfl, rfl, rfl⟩; refine ⟨trivial, ?_⟩
 refine ga rfl rfl rfl rfl ?_
 refine gr_nil (gk_then ?_)
 refine gc_seq (gc_seqr [(.mv, 0)] rfl ?_)
 refine ga rfl rfl rfl rfl ?_
 refine gr_nil (gk_then ?_)
 refine gc_seq ?_
 refine gc_seq (gc_seqr [(.mv, 0), (.mv, 1), (.mv, 2), (.mv, 3)] rfl ?_)
 refine gr_rd rfl rfl rfl (rd_fieldAddr Tryd.fa38_3 rfl) ?_
 refine gr_rd rfl rfl rfl (rd_load1 Tryd.to29 rfl (by first | (apply Cells.own; (repeat (first | exact List.mem_cons_self | apply List.mem_cons_of_mem)); done) | (exact Cells.own (List.mem_append_right _ List.mem_cons_self))) at1) ?_
 refine gr_rd rfl rfl rfl (rd_lenS Tryd.underlying29 rfl) ?_
 refine gm rfl rfl rfl rfl ?_
 refine gr_nil (gk_then ?_)
 refine gc_block ?_
 refine gc_loop (fun k : Nat => [(1, pt b1 0), (3, str ((o.preds.take k).flatMap (·.bytes))), (7, .slice A o.preds.length cv), (8, i64 o.preds.length), (9, i64 k)]) (fun k H1 L1 => H = H1 ∧ (b1, .cells (encOp o (.slice A o.preds.length cv)).toArray 38 (0, 0)) :: L = L1 ∧ k ≤ o.preds.length) (fun k => o.preds.length - k) (0) ?_ sbs ?_
 ·exact ⟨rfl, rfl, Nat.zero_le _⟩
 ·rintro k H1 L1 ⟨rfl, rfl, hk⟩
  refine gc_seq (gc_seqr [(.mv, 0)] rfl ?_)
  refine gr_rd rfl rfl rfl (rd_lss rfl rfl) ?_
  refine gr_nil (gk_then ?_)
  refine gc_seq ?_
  refine gc_cond rfl (fun hc0 => ?_) (fun hc0 => ?_)
  ·have hlt : k < o.preds.length := by simpa using hc0
   obtain ⟨hAe, hca, hsa⟩ := ids_at hv1 hv2 hlt
   have hpt := preds_take_len o.preds k
   have hca1 := Cells.mono (L' := (b1, .cells (encOp o (.slice A o.preds.length cv)).toArray 38 (0, 0)) :: L) hca (Gh.le_refl H) (by intro x hx; first | exact hx | exact List.mem_append_left _ hx | simp [baseL, hx])
   refine gc_skip ?_
   refine gk_then ?_
   refine gc_seq ?_
   refine gc_block ?_
   refine gc_seq (gc_seqr [(.mv, 0), (.mv, 1), (.nm, 2), (.nm, 3)] rfl ?_)
   refine gr_rd rfl rfl rfl (rd_indexS Tryd.underlying29 Tryd.sizeOf34 rfl rfl hAe (by omega) (by omega)) ?_
   refine gr_rd rfl rfl rfl (rd_loadA Tryd.ta34 rfl hca1 hsa (encId_length _)) ?_
   refine gr_nx rfl rfl rfl (nx_alloc Tryd.zeroValue34 rfl) ?_; rintro _ _ _ _ ⟨b5, rfl, rfl, rfl⟩; refine ⟨trivial, ?_⟩
   refine gr_nx0 rfl rfl (nx_store (vs := encId o.preds[k]) Tryd.sizeOf34 rfl rfl rfl (encId_length _) Upd.here (by simp) (encId_ones _)) ?_; rintro _ _ _ _ ⟨rfl, rfl, rfl⟩; refine ⟨trivial, ?_⟩
   rw [wr_all (by rw [encId_length]; exact Nat.le_refl _)]
   refine gr_nil (gk_then ?_)
   refine gc_seqr [(.mv, 0), (.mv, 1), (.mv, 2), (.mv, 3), (.mv, 4)] rfl ?_
   refine gm rfl rfl rfl rfl ?_
   refine gr_rd rfl rfl rfl (rd_sliceArr Tryd.underlying34 Tryd.sizeOf5 rfl) ?_
   refine gr_rd rfl rfl rfl (rd_idStr o.preds[k] Tryd.underlying117 Tryd.underlying9 Tryd.underlying5 rfl (Cells.own List.mem_cons_self) (Seg.all _)) ?_
   refine gr_rd rfl rfl rfl (rd_strAddL rfl rfl (by have := (o.preds[k]).len; omega)) ?_
   refine ga rfl rfl rfl rfl ?_
   refine gr_nil ?_
   refine gk_inBlock ?_
   refine gk_then ?_
   refine gc_seqr [(.mv, 0), (.mv, 1)] rfl ?_
   (first | refine gr_rd rfl rfl rfl (rd_add rfl rfl (IntWalk.i64_in _ (by omega))) ?_ | refine gr_rd rfl rfl rfl (rd_add rfl rfl rfl) ?_)
   refine gm rfl rfl rfl rfl ?_
   refine gr_nil ?_
   refine gk_drop (L' := (b1, .cells (encOp o (.slice A o.preds.length cv)).toArray 38 (0, 0)) :: L) sbl ?_
   refine gk_round (k + 1) (by omega) ⟨rfl, rfl, by omega⟩ ?_
   refine Subs.cons rfl (Subs.cons ?_ sbs)
   simp only [find, cond]
   rw [preds_take _ _ hlt]
  ·have hk2 : k = o.preds.length := by simp at hc0; omega
   subst hk2
   have hpt := predsB_len o.preds
   have hsp := ho.preds
   rw [List.take_length]
   refine gc_exit ?_
   refine gk_exit_then ?_
   refine gk_exit_then ?_
   refine gk_here ?_
   refine gk_then ?_
   refine gc_seq ?_
   refine gc_draw Tryd.mixed [(.mv, 0), (.mv, 1), (.mv, 3), (.mv, 4), (.mv, 6), (.mv, 7), (.mv, 8), (.nm, 2), (.nm, 5), (.nm, 9), (.fin, 10), (.fin, 11), (.fin, 12)] (by decide +kernel) _ (List.Sublist.refl _) ?_
   refine gr_rd rfl rfl rfl (rd_fieldAddr Tryd.fa38_1 rfl) ?_
   refine gr_rd rfl rfl rfl (rd_load1 Tryd.to3 rfl (by first | (apply Cells.own; (repeat (first | exact List.mem_cons_self | apply List.mem_cons_of_mem)); done) | (exact Cells.own (List.mem_append_right _ List.mem_cons_self))) at1) ?_
   refine gr_rd rfl rfl rfl (rd_fieldAddr Tryd.fa38_2 rfl) ?_
   refine gr_rd rfl rfl rfl (rd_load1 Tryd.to3 rfl (by first | (apply Cells.own; (repeat (first | exact List.mem_cons_self | apply List.mem_cons_of_mem)); done) | (exact Cells.own (List.mem_append_right _ List.mem_cons_self))) at1) ?_
   refine gm rfl rfl rfl rfl ?_
   refine gr_rd rfl rfl rfl (rd_fieldAddr Tryd.fa38_0 rfl) ?_
   refine gr_rd rfl rfl rfl (rd_loadA Tryd.ta36 rfl (by first | exact Cells.own List.mem_cons_self | exact Cells.own (List.mem_append_right _ List.mem_cons_self)) (encOp_seg_draft o _) (encDraft_length _)) ?_
   refine gr_nx rfl rfl rfl (nx_call Tryd.en79 rfl (rnum9_cc _ _ _ ho.author)) ?_; rintro v20 H' L' hle ⟨rfl, rfl, rfl⟩; refine ⟨kp, ?_⟩
   refine gr_nx rfl rfl rfl (nx_call Tryd.en79 rfl (rnum9_cc _ _ _ ho.depth)) ?_; rintro v23 H' L' hle ⟨rfl, rfl, rfl⟩; refine ⟨kp, ?_⟩
   refine gr_nx rfl rfl rfl (nx_call Tryd.en80 rfl (rdraft_cc _ _ _ ho.draft)) ?_; rintro v27 H' L' hle ⟨rfl, rfl, rfl⟩; refine ⟨kp, ?_⟩
   refine gr_fin rfl rfl rfl (nx_slice1 (vs := [_, _, _, _]) Tryd.underlying69 Tryd.sizeOf9 Tryd.zeroValue9 rfl rfl rfl (by first | exact oneCells_of_all rfl | assumption) rfl rfl) ?_; rintro _ _ _ _ ⟨b28, rfl, rfl, rfl⟩
   refine gr_fin rfl rfl rfl (nx_call Tryd.en78 rfl (rlist_cc _ _ _ [numB o.author.toNat, numB o.depth.toNat, o.preds.flatMap (·.bytes), draftB o.draft] (strs_new rfl (by omega) List.mem_cons_self) (by show (opB o).length < _; omega))) ?_; rintro v29 H' L' hle ⟨rfl, rfl, rfl⟩
   refine gr_fin rfl rfl rfl (Rd.nx (rd_assign rfl)) ?_; rintro _ _ _ _ ⟨rfl, rfl, rfl⟩
   refine gr_nil (gk_then ?_)
   refine gc_ret ?_
   refine gk_result (L' := L) (.inl rfl) _ (res1 rfl rfl) sbl gle ?_
   exact ⟨rfl, rfl, rfl⟩
theorem name_cc (H : Gh) (hG : Glob H) (L : Chunks) (o : POp) (pv : Value) (hp : Ids H L pv o.preds) (ho : SmallO o) :
    CC Tryd.prog 43 #[ag (encOp o pv)] H L (fun u H' L' => u = ag (encId (nameOf o)) ∧ H = H' ∧ L = L') := by
 refine cc_of Tryd.func43 rfl (Nat.le_of_ble_eq_true rfl) ?_
 simp only [Tryd.ntmps43]
 refine gc_seq (gc_seqr [(.nm, 0), (.nm, 1)] rfl ?_)
 refine gr_nx rfl rfl rfl (nx_box rfl rfl) ?_; rintro _ _ _ _ ⟨b1, rfl, rfl, rfl⟩; refine ⟨trivial, ?_⟩
 refine gr_nx rfl rfl rfl (nx_alloc Tryd.zeroValue34 rfl) ?_; rintro _ _ _ _ ⟨b2, rfl, rfl, rfl⟩; refine ⟨trivial, ?_⟩
 refine gr_nil (gk_then ?_)
 refine gc_seq (gc_seqr [(.mv, 0), (.nm, 1), (.nm, 2), (.nm, 3), (.nm, 4)] rfl ?_)
 refine gr_rd rfl rfl rfl (rd_loadA Tryd.ta38 rfl (Cells.own (List.mem_cons_of_mem _ List.mem_cons_self)) (Seg.all _) (encOp_length _ _)) ?_
 refine gr_nx rfl rfl rfl (nx_call Tryd.en73 rfl (text_cc _ _ o pv (hp.mono (Gh.le_refl _) (fun x hx => List.mem_cons_of_mem _ (List.mem_cons_of_mem _ hx))) ho)) ?_; rintro v4 H' L' hle ⟨rfl, rfl, rfl⟩; refine ⟨trivial, ?_⟩
 refine gr_nx rfl rfl rfl (nx_slice1 (vs := [_]) Tryd.underlying69 Tryd.sizeOf9 Tryd.zeroValue9 rfl rfl rfl (by first | exact oneCells_of_all rfl | exact encOp_ones o hp.one) rfl rfl) ?_; rintro _ _ _ _ ⟨b5, rfl, rfl, rfl⟩; refine ⟨trivial, ?_⟩
 refine gr_nx rfl rfl rfl (nx_call Tryd.en72 rfl (sum_cc _ hG _ opWord _ [opB o] (strs_new rfl (by omega) List.mem_cons_self) (nameB_len ho) (by simp))) ?_; rintro v6 H' L' hle ⟨rfl, rfl, rfl⟩; refine ⟨trivial, ?_⟩
 refine gr_nx0 rfl rfl (nx_store (vs := encId (sum opWord [opB o])) Tryd.sizeOf34 rfl rfl rfl (encId_length _) (Upd.there Upd.here) (by simp) (encId_ones _)) ?_; rintro _ _ _ _ ⟨rfl, rfl, rfl⟩; refine ⟨trivial, ?_⟩
 rw [wr_all (by rw [encId_length]; exact Nat.le_refl _)]
 refine gr_nil (gk_then ?_)
 refine gc_ret ?_
 refine gk_result (L' := L) (.inl rfl) _ (resC1 rfl rfl Tryd.ta34 (by first | (apply Cells.own; (repeat (first | exact List.mem_cons_self | apply List.mem_cons_of_mem)); done) | (exact Cells.own (List.mem_cons_of_mem _ List.mem_cons_self))) sg lnk) sbl gle ?_
 exact ⟨rfl, rfl, rfl⟩
theorem rname_cc (H : Gh) (L : Chunks) (o : POp) (pv : Value) (hp : Ids H L pv o.preds) (ho : SmallO o) :
    CC Tryd.prog 16 #[ag (encOp o pv)] H L (fun u H' L' => u = ag (encId (nameOf o)) ∧ H = H' ∧ L = L') := by
 refine cc_of Tryd.func16 rfl (Nat.le_of_ble_eq_true rfl) ?_
 simp only [Tryd.ntmps16]
 refine gc_seq (gc_seqr [(.nm, 0), (.nm, 1)] rfl ?_)
 refine gr_nx rfl rfl rfl (nx_box rfl rfl) ?_; rintro _ _ _ _ ⟨b1, rfl, rfl, rfl⟩; refine ⟨trivial, ?_⟩
 refine gr_nx rfl rfl rfl (nx_alloc Tryd.zeroValue34 rfl) ?_; rintro _ _ _ _ ⟨b2, rfl, rfl, rfl⟩; refine ⟨trivial, ?_⟩
 refine gr_nil (gk_then ?_)
 refine gc_seq (gc_seqr [(.mv, 0), (.nm, 1), (.nm, 2), (.nm, 3), (.nm, 4)] rfl ?_)
 refine gr_rd rfl rfl rfl (rd_loadA Tryd.ta38 rfl (Cells.own (List.mem_cons_of_mem _ List.mem_cons_self)) (Seg.all _) (encOp_length _ _)) ?_
 refine gr_nx rfl rfl rfl (nx_call Tryd.en52 rfl (rotext_cc _ _ o pv (hp.mono (Gh.le_refl _) (fun x hx => List.mem_cons_of_mem _ (List.mem_cons_of_mem _ hx))) ho)) ?_; rintro v4 H' L' hle ⟨rfl, rfl, rfl⟩; refine ⟨trivial, ?_⟩
 refine gr_nx rfl rfl rfl (nx_slice1 (vs := [_]) Tryd.underlying69 Tryd.sizeOf9 Tryd.zeroValue9 rfl rfl rfl (by first | exact oneCells_of_all rfl | exact encOp_ones o hp.one) rfl rfl) ?_; rintro _ _ _ _ ⟨b5, rfl, rfl, rfl⟩; refine ⟨trivial, ?_⟩
 refine gr_nx rfl rfl rfl (nx_call Tryd.en51 rfl (rsum_cc _ _ opWord _ [opB o] (strs_new rfl (by omega) List.mem_cons_self) (nameB_len ho) (by simp))) ?_; rintro v6 H' L' hle ⟨rfl, rfl, rfl⟩; refine ⟨trivial, ?_⟩
 refine gr_nx0 rfl rfl (nx_store (vs := encId (sum opWord [opB o])) Tryd.sizeOf34 rfl rfl rfl (encId_length _) (Upd.there Upd.here) (by simp) (encId_ones _)) ?_; rintro _ _ _ _ ⟨rfl, rfl, rfl⟩; refine ⟨trivial, ?_⟩
 rw [wr_all (by rw [encId_length]; exact Nat.le_refl _)]
 refine gr_nil (gk_then ?_)
 refine gc_ret ?_
 refine gk_result (L' := L) (.inl rfl) _ (resC1 rfl rfl Tryd.ta34 (by first | (apply Cells.own; (repeat (first | exact List.mem_cons_self | apply List.mem_cons_of_mem)); done) | (exact Cells.own (List.mem_cons_of_mem _ List.mem_cons_self))) sg lnk) sbl gle ?_
 exact ⟨rfl, rfl, rfl⟩
theorem bcmp_cc (H : Gh) (L : Chunks) {b o cap b' o' cap' : Nat} {l l' : List Value} (p q : Nm) (hc : Cells H L b l) (hs : Seg l o (encId p)) (hc' : Cells H L b' l') (hs' : Seg l' o' (encId q)) :
    CC Tryd.prog 76 #[.slice (some ⟨b, o, none⟩) 32 cap, .slice (some ⟨b', o', none⟩) 32 cap'] H L (fun v H' L' => v = i64 (cmp p q) ∧ H = H' ∧ L = L') := by
 refine cc_of Tryd.func76 rfl (Nat.le_of_ble_eq_true rfl) ?_
 simp only [Tryd.ntmps76]
 refine gc_seq (gc_seqr [(.mv, 0)] rfl ?_)
 refine ga rfl rfl rfl rfl ?_
 refine gr_nil (gk_then ?_)
 refine gc_seq (gc_seqr [(.mv, 0), (.mv, 1), (.mv, 2), (.mv, 3)] rfl ?_)
 refine gm rfl rfl rfl rfl ?_
 refine gm rfl rfl rfl rfl ?_
 refine gr_rd rfl rfl rfl (rd_compare Tryd.func96 (by kernel_rfl) rfl (by kernel_rfl) (by kernel_rfl) p.len q.len rfl rfl hc hs hc' hs') ?_
 refine ga rfl rfl rfl rfl ?_
 refine gr_nil (gk_then ?_)
 refine gc_ret ?_
 refine gk_result (L' := L) (.inl rfl) _ (res1 rfl rfl) sbl gle ?_
 exact ⟨rfl, rfl, rfl⟩
theorem cmp_cc (H : Gh) (L : Chunks) (p q : Nm) :
    CC Tryd.prog 50 #[ag (encId p), ag (encId q)] H L (fun v H' L' => v = i64 (cmp p q) ∧ H = H' ∧ L = L') := by
 refine cc_of Tryd.func50 rfl (Nat.le_of_ble_eq_true rfl) ?_
 simp only [Tryd.ntmps50]
 refine gc_seq (gc_seqr [(.nm, 0), (.nm, 1), (.mv, 2)] rfl ?_)
 refine gr_nx rfl rfl rfl (nx_box rfl rfl) ?_; rintro _ _ _ _ ⟨b2, rfl, rfl, rfl⟩; refine ⟨trivial, ?_⟩
 refine gr_nx rfl rfl rfl (nx_box rfl rfl) ?_; rintro _ _ _ _ ⟨b3, rfl, rfl, rfl⟩; refine ⟨trivial, ?_⟩
 refine ga rfl rfl rfl rfl ?_
 refine gr_nil (gk_then ?_)
 refine gc_seq ?_
 refine gc_draw Tryd.mixed [(.mv, 0), (.mv, 1), (.fin, 2), (.fin, 3)] (by decide +kernel) _ (List.Sublist.refl _) ?_
 refine gr_rd rfl rfl rfl (rd_sliceArr Tryd.underlying34 Tryd.sizeOf5 rfl) ?_
 refine gr_rd rfl rfl rfl (rd_sliceArr Tryd.underlying34 Tryd.sizeOf5 rfl) ?_
 refine gr_fin rfl rfl rfl (nx_call Tryd.en76 rfl (bcmp_cc _ _ p q (Cells.own (List.mem_cons_of_mem _ List.mem_cons_self)) (Seg.all _) (Cells.own List.mem_cons_self) (Seg.all _))) ?_; rintro v7 H' L' hle ⟨rfl, rfl, rfl⟩
 refine gr_fin rfl rfl rfl (Rd.nx (rd_assign rfl)) ?_; rintro _ _ _ _ ⟨rfl, rfl, rfl⟩
 refine gr_nil (gk_then ?_)
 refine gc_ret ?_
 refine gk_result (L' := L) (.inl rfl) _ (res1 rfl rfl) sbl gle ?_
 exact ⟨rfl, rfl, rfl⟩
theorem rcmp_cc (H : Gh) (L : Chunks) (p q : Nm) :
    CC Tryd.prog 57 #[ag (encId p), ag (encId q)] H L (fun v H' L' => v = i64 (cmp p q) ∧ H = H' ∧ L = L') := by
 refine cc_of Tryd.func57 rfl (Nat.le_of_ble_eq_true rfl) ?_
 simp only [Tryd.ntmps57]
 refine gc_seq (gc_seqr [(.nm, 0), (.nm, 1), (.mv, 2)] rfl ?_)
 refine gr_nx rfl rfl rfl (nx_box rfl rfl) ?_; rintro _ _ _ _ ⟨b2, rfl, rfl, rfl⟩; refine ⟨trivial, ?_⟩
 refine gr_nx rfl rfl rfl (nx_box rfl rfl) ?_; rintro _ _ _ _ ⟨b3, rfl, rfl, rfl⟩; refine ⟨trivial, ?_⟩
 refine ga rfl rfl rfl rfl ?_
 refine gr_nil (gk_then ?_)
 refine gc_seq ?_
 refine gc_seq (gc_seqr [(.mv, 0)] rfl ?_)
 refine gm rfl rfl rfl rfl ?_
 refine gr_nil (gk_then ?_)
 refine gc_block ?_
 refine gc_loop (fun i : Nat => [(2, pt b2 0), (3, pt b3 0), (6, i64 i)]) (fun i H1 L1 => H = H1 ∧ (b3, .cells (encId q).toArray 34 (0, 0)) :: (b2, .cells (encId p).toArray 34 (0, 0)) :: L = L1 ∧ i ≤ 32 ∧ cmp p q = cmpB (p.bytes.drop i) (q.bytes.drop i)) (fun i => 32 - i) (0) ?_ sbs ?_
 ·exact ⟨rfl, rfl, Nat.zero_le _, rfl⟩
 ·rintro i H1 L1 ⟨rfl, rfl, hi, hcm⟩
  refine gc_seq (gc_seqr [(.mv, 0)] rfl ?_)
  refine gr_rd rfl rfl rfl (rd_lss rfl rfl) ?_
  refine gr_nil (gk_then ?_)
  refine gc_seq ?_
  refine gc_cond rfl (fun hc0 => ?_) (fun hc0 => ?_)
  ·have hi32 : i < 32 := by simp at hc0; omega
   have hst := cmpB_step (byteN (n := p) hi32) (byteN (n := q) hi32)
   refine gc_skip ?_
   refine gk_then ?_
   refine gc_seq ?_
   refine gc_block ?_
   refine gc_seq (gc_seqr [(.mv, 0), (.mv, 1)] rfl ?_)
   refine gm rfl rfl rfl rfl ?_
   refine ga rfl rfl rfl rfl ?_
   refine gr_nil (gk_then ?_)
   refine gc_seq ?_
   refine gc_seq ?_
   refine gc_draw Tryd.mixed [(.mv, 0), (.mv, 1), (.mv, 2), (.mv, 3), (.mv, 4), (.mv, 5), (.mv, 6)] (by decide +kernel) _ (List.Sublist.refl _) ?_
   refine gm rfl rfl rfl rfl ?_
   refine gr_rd rfl rfl rfl (rd_indexA Tryd.underlying34 Tryd.sizeOf5 rfl rfl (by omega) (by omega)) ?_
   refine gr_rd rfl rfl rfl (rd_load1 Tryd.to5 rfl (Cells.own (List.mem_cons_of_mem _ List.mem_cons_self)) (cellN hi32)) ?_
   refine gm rfl rfl rfl rfl ?_
   refine gr_rd rfl rfl rfl (rd_indexA Tryd.underlying34 Tryd.sizeOf5 rfl rfl (by omega) (by omega)) ?_
   refine gr_rd rfl rfl rfl (rd_load1 Tryd.to5 rfl (Cells.own List.mem_cons_self) (cellN hi32)) ?_
   refine gr_rd rfl rfl rfl (rd_lss rfl rfl) ?_
   refine gr_nil (gk_then ?_)
   refine gc_cond rfl (fun hc1 => ?_) (fun hc1 => ?_)
   ·have hlt1 := u8_lt.2 (of_decide_eq_true hc1)
    refine gc_seq (gc_seqr [(.mv, 0)] rfl ?_)
    refine ga rfl rfl rfl rfl ?_
    refine gr_nil (gk_then ?_)
    refine gc_ret ?_
    refine gk_ret_then ?_
    refine gk_ret_inBlock ?_
    refine gk_ret_then ?_
    refine gk_ret_then ?_
    refine gk_ret_inBlock ?_
    refine gk_ret_then ?_
    refine gk_result (L' := L) (.inl rfl) _ (res1 rfl rfl) sbl gle ?_
    exact ⟨by rw [hcm, hst, if_pos hlt1], rfl, rfl⟩
   ·have hlt1 := mt u8_lt.1 (of_decide_eq_false hc1)
    refine gc_skip ?_
    refine gk_then ?_
    refine gc_seq ?_
    refine gc_draw Tryd.mixed [(.mv, 0), (.mv, 1), (.mv, 2), (.mv, 3), (.mv, 4), (.mv, 5), (.mv, 6)] (by decide +kernel) _ (List.Sublist.refl _) ?_
    refine gm rfl rfl rfl rfl ?_
    refine gr_rd rfl rfl rfl (rd_indexA Tryd.underlying34 Tryd.sizeOf5 rfl rfl (by omega) (by omega)) ?_
    refine gr_rd rfl rfl rfl (rd_load1 Tryd.to5 rfl (Cells.own (List.mem_cons_of_mem _ List.mem_cons_self)) (cellN hi32)) ?_
    refine gm rfl rfl rfl rfl ?_
    refine gr_rd rfl rfl rfl (rd_indexA Tryd.underlying34 Tryd.sizeOf5 rfl rfl (by omega) (by omega)) ?_
    refine gr_rd rfl rfl rfl (rd_load1 Tryd.to5 rfl (Cells.own List.mem_cons_self) (cellN hi32)) ?_
    refine gr_rd rfl rfl rfl (rd_gtr rfl rfl) ?_
    refine gr_nil (gk_then ?_)
    refine gc_cond rfl (fun hc2 => ?_) (fun hc2 => ?_)
    ·have hlt2 := u8_lt.2 (of_decide_eq_true hc2)
     refine gc_seq (gc_seqr [(.mv, 0)] rfl ?_)
     refine ga rfl rfl rfl rfl ?_
     refine gr_nil (gk_then ?_)
     refine gc_ret ?_
     refine gk_ret_inBlock ?_
     refine gk_ret_then ?_
     refine gk_ret_then ?_
     refine gk_ret_inBlock ?_
     refine gk_ret_then ?_
     refine gk_result (L' := L) (.inl rfl) _ (res1 rfl rfl) sbl gle ?_
     exact ⟨by rw [hcm, hst, if_neg hlt1, if_pos hlt2], rfl, rfl⟩
    ·have hlt2 := mt u8_lt.1 (of_decide_eq_false hc2)
     refine gc_skip ?_
     refine gk_inBlock ?_
     refine gk_then ?_
     refine gc_seqr [(.mv, 0), (.mv, 1)] rfl ?_
     (first | refine gr_rd rfl rfl rfl (rd_add rfl rfl (IntWalk.i64_in _ (by omega))) ?_ | refine gr_rd rfl rfl rfl (rd_add rfl rfl rfl) ?_)
     refine gm rfl rfl rfl rfl ?_
     refine gr_nil ?_
     refine gk_round (i + 1) (by omega) ⟨rfl, rfl, by omega, ?_⟩ sbs
     rw [hcm, hst, if_neg hlt1, if_neg hlt2]
  ·have hi32 : i = 32 := by simp at hc0; omega
   subst hi32
   rw [List.drop_eq_nil_of_le (by rw [p.len]; exact Nat.le_refl _), List.drop_eq_nil_of_le (by rw [q.len]; exact Nat.le_refl _)] at hcm
   refine gc_exit ?_
   refine gk_exit_then ?_
   refine gk_exit_then ?_
   refine gk_here ?_
   refine gk_then ?_
   refine gc_seq (gc_seqr [(.mv, 0)] rfl ?_)
   refine ga rfl rfl rfl rfl ?_
   refine gr_nil (gk_then ?_)
   refine gc_ret ?_
   refine gk_result (L' := L) (.inl rfl) _ (res1 rfl rfl) sbl gle ?_
   exact ⟨by rw [hcm]; rfl, rfl, rfl⟩
end Go.Proofs.YtfhldfjknagidaaDoor
