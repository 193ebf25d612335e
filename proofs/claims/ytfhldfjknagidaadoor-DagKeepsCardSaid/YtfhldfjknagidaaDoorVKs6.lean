/-
  Walks: digests of lists, operations as bytes, names.
-/
import Derived.Test.YtfhldfjknagidaaDoorVKs5
set_option linter.unusedSimpArgs false
set_option linter.unusedVariables false
namespace Go.Proofs.YtfhldfjknagidaaDoor
open Go.VK Go.Tr
set_option maxRecDepth 20000
attribute [local irreducible] Go.Tr.sha
theorem wr_all {l vs : List Value} (h : l.length ≤ vs.length) : wr l 0 vs = vs := by
  rw [wr, List.drop_eq_nil_of_le (by omega)]; simp
theorem strs_new {H : Gh} {L : Chunks} {b n : Nat} {T : TypeId} {z : Nat × Nat} {ls : List Bs} (hn : ls.length = n) (hlt : n < 4611686018427387904) (hm : (b, Obj.cells (ls.map str).toArray T z) ∈ L) :
    Strs H L (.slice (some ⟨b, 0, none⟩) n n) ls := by
  subst hn
  refine ⟨_, b, 0, _, _, rfl, Nat.le_refl _, hlt, (fun h => by cases h), fun _ => ⟨rfl, Cells.own hm⟩, fun j x hx i v hi => ?_⟩
  obtain ⟨rfl, rfl⟩ : i = 0 ∧ v = str x := by
    cases i with
    | zero => simpa using hi.symm
    | succ i => simp at hi
  simp [hx]
theorem strs_ow {H : Gh} {L : Chunks} {C : Chunks} {e n : Nat} {v : Value} {ls : List Bs} (hO : Ow e 1 C v n (ls.map str)) (hn : ls.length = n) (hlt : n < 4611686018427387904) (hC : ∀ x ∈ C, x ∈ L) : Strs H L v ls := by
  obtain ⟨a, cap, rfl, hcap⟩ := hO.slice
  subst hn
  by_cases h0 : ls.length = 0
  · have : ls = [] := List.length_eq_zero_iff.1 h0
    subst this
    exact ⟨a, 0, 0, cap, [], rfl, hcap, hlt, fun ha => ⟨rfl, (hO.notnil ha).2⟩, fun h => absurd rfl h, fun j x hx => by simp at hx⟩
  · obtain ⟨b, l, rfl, h1, h2⟩ := hO.elem h0
    refine ⟨_, b, 0, cap, l, rfl, hcap, hlt, (fun h => by cases h), fun _ => ⟨rfl, h1 H L hC⟩, fun j x hx i v hi => ?_⟩
    obtain ⟨rfl, rfl⟩ : i = 0 ∧ v = str x := by
      cases i with
      | zero => simpa using hi.symm
      | succ i => simp at hi
    have := h2 j (str x) (by simp [hx])
    simpa using this
theorem src_strs {P : Program} {H : Gh} {L : Chunks} {v : Value} {ls : List Bs} (h : Strs H L v ls) : Src P H L 1 v ls.length (ls.map str) := by
  obtain ⟨A, b, o, c, l, rfl, hc, hn, h0, h1, h2⟩ := h
  refine src_slice (b := b) (o := o) (l := l) (by simp) (fun u hu => ?_) (fun ha => by simp [(h0 ha).1]) (fun _ hne => ?_)
  · obtain ⟨x, _, rfl⟩ := List.mem_map.1 hu; rfl
  · have hne' : ls ≠ [] := fun e => hne (by simp [e])
    refine ⟨(h1 hne').1, (h1 hne').2, fun j u hu => ?_⟩
    rw [List.getElem?_map] at hu
    cases hx : ls[j]? with
    | none => rw [hx] at hu; cases hu
    | some x =>
      rw [hx] at hu; cases hu
      have := h2 j x hx 0 (str x) rfl
      simpa using this
theorem rd_idStr {P : Program} {E : Env} {H : Gh} {L : Chunks} {T T' e t : TypeId} {x : Operand} {b o : Nat} {l : List Value} (d : Nm) (hs : P.underlying T = some (.slice e)) (hd : P.underlying T' = some .string) (he : P.underlying e = some (.int .u8))
    (hx : ev E x = some (.slice (some ⟨b, o, none⟩) 32 32)) (hc : Cells H L b l) (hsg : Seg l o (encId d)) : Rd P E H L (.convert T T' x) t (str d.bytes) :=
  rd_convStr hs hd he hx d.len (fun _ _ => ⟨rfl, hc, hsg⟩) (fun h => by cases h)
theorem src_id {P : Program} {H : Gh} {L : Chunks} {b o : Nat} {l : List Value} (d : Nm) (hc : Cells H L b l) (hsg : Seg l o (encId d)) : Src P H L 1 (.slice (some ⟨b, o, none⟩) 32 32) 32 (encId d) :=
  src_slice (b := b) (o := o) (l := l) (encId_length _) (encId_ones _) (fun h => by cases h) (fun _ _ => ⟨rfl, hc, hsg⟩)
theorem listB4_len (a b c d : Bs) : (listB [a, b, c, d]).length ≤ 50 + a.length + b.length + c.length + d.length := by
  have h0 := numB_len ([a, b, c, d] : List Bs).length
  have h1 := numB_len a.length
  have h2 := numB_len b.length
  have h3 := numB_len c.length
  have h4 := numB_len d.length
  simp only [listB, textB, List.length_cons, List.length_nil, List.flatMap_cons, List.flatMap_nil, List.append_nil, List.length_append] at *
  omega
theorem listB2_len (a b : Bs) : (listB [a, b]).length ≤ 30 + a.length + b.length := by
  have h0 := numB_len ([a, b] : List Bs).length
  have h1 := numB_len a.length
  have h2 := numB_len b.length
  simp only [listB, textB, List.length_cons, List.length_nil, List.flatMap_cons, List.flatMap_nil, List.append_nil, List.length_append] at *
  omega
/-- A draft that fits: numbers of 64 bits, texts not too long. -/
structure SmallD (d : Draft) : Prop where
  kind : d.kind < 9223372036854775808
  key : d.key.length < 4294967296
  value : d.value.length < 4294967296
structure SmallO (o : POp) : Prop where
  draft : SmallD o.draft
  author : o.author < 9223372036854775808
  depth : o.depth < 9223372036854775808
  preds : o.preds.length < 16777216
theorem draftB_len {d : Draft} (h : SmallD d) : (draftB d).length < 8589934692 := by
  have h1 := listB4_len (numB d.kind.toNat) d.key d.value d.ref.bytes
  have h2 := numB_len d.kind.toNat
  have h3 := d.ref.len
  have := h.key
  have := h.value
  unfold draftB
  omega
theorem predsB_len (l : List Nm) : (l.flatMap (·.bytes)).length = 32 * l.length := by
  induction l with
  | nil => rfl
  | cons x r ih => have := x.len; simp at ih ⊢; omega
theorem opB_len {o : POp} (h : SmallO o) : (opB o).length < 9126806000 := by
  have h1 := listB4_len (numB o.author.toNat) (numB o.depth.toNat) (o.preds.flatMap (·.bytes)) (draftB o.draft)
  have h2 := numB_len o.author.toNat
  have h3 := numB_len o.depth.toNat
  have h4 := draftB_len h.draft
  have h5 := predsB_len o.preds
  have := h.preds
  unfold opB
  omega
theorem preds_take (l : List Nm) (k : Nat) (h : k < l.length) : (l.take (k + 1)).flatMap (·.bytes) = (l.take k).flatMap (·.bytes) ++ l[k].bytes := by
  rw [List.take_add_one, List.getElem?_eq_getElem h]
  simp only [List.flatMap_append, Option.toList_some, List.flatMap_cons, List.flatMap_nil, List.append_nil]
theorem preds_take_len (l : List Nm) (k : Nat) : ((l.take k).flatMap (·.bytes)).length ≤ 32 * l.length := by
  rw [predsB_len, List.length_take]; omega

theorem sum_cc (H : Gh) (hG : Glob H) (L : Chunks) (purpose : Bs) (v : Value) (parts : List Bs) (hv : Strs H L v parts) (hb : (listB (purpose :: parts)).length < 549755813888) (hpl : parts.length < 1099511627776) :
    CC Tryd.prog 72 #[str purpose, v] H L (fun u H' L' => u = ag (encId (sum purpose parts)) ∧ H = H' ∧ L = L') := by
  refine cc_of Tryd.func72 rfl (Nat.le_of_ble_eq_true rfl) ?_
  simp only [Tryd.ntmps72]
  refine gc_seq ?_
  refine gc_seqr [(.nm, 0)] rfl ?_
  refine gr_nx rfl rfl rfl (nx_alloc Tryd.zeroValue34 rfl) ?_; rintro _ _ _ _ ⟨b4, rfl, rfl, rfl⟩; refine ⟨trivial, ?_⟩
  refine gr_nil ?_
  refine gk_then ?_
  refine gc_seq ?_
  refine gc_seqr [(.mv, 0), (.nm, 1), (.mv, 2), (.nm, 3), (.nm, 4), (.nm, 5), (.nm, 6)] rfl ?_
  refine gr_rd rfl rfl rfl (rd_move rfl) ?_
  refine gr_nx rfl rfl rfl (nx_slice1 (vs := [_]) Tryd.underlying69 Tryd.sizeOf9 Tryd.zeroValue9 rfl rfl rfl (by first | exact oneCells_of_all rfl | assumption) rfl rfl) ?_; rintro _ _ _ _ ⟨b6, rfl, rfl, rfl⟩; refine ⟨trivial, ?_⟩
  refine gr_rd rfl rfl rfl (rd_move rfl) ?_
  refine gr_nx rfl rfl rfl (nx_append Tryd.app69_69 rfl rfl (Ow.new (b := b6) (e := 9) (k := 1) (n := 1) (cs := [str purpose]) rfl) (by repeat (first | exact Pick.here | exact Pick.one | apply Pick.there | apply Pick.app)) (src_strs (hv.mono (Gh.le_refl _) (fun x hx => List.mem_cons_of_mem _ (List.mem_cons_of_mem _ hx)))) (by omega) (by omega)) ?_; rintro v8 H' L' hle ⟨C1, hO1, _, rfl, rfl⟩; refine ⟨trivial, ?_⟩
  refine gr_nx rfl rfl rfl (nx_call Tryd.en92 rfl (list_cc _ _ _ (purpose :: parts) (strs_ow (ls := purpose :: parts) (n := 1 + parts.length) hO1 (by simp; omega) (by omega) (fun x hx => List.mem_append_left _ hx)) (by omega))) ?_; rintro v9 H' L' hle ⟨rfl, rfl, rfl⟩; refine ⟨trivial, ?_⟩
  refine gr_nx rfl rfl rfl (nx_call Tryd.en91 rfl (of_cc _ hG _ _ hb)) ?_; rintro v10 H' L' hle ⟨rfl, rfl, rfl⟩; refine ⟨trivial, ?_⟩
  refine gr_nx0 rfl rfl (nx_store (vs := encId (sum purpose parts)) Tryd.sizeOf34 rfl rfl rfl (encId_length _) (Upd.app Upd.here) (by simp) (encId_ones _)) ?_; rintro _ _ _ _ ⟨rfl, rfl, rfl⟩; refine ⟨trivial, ?_⟩
  rw [wr_all (by rw [encId_length]; exact Nat.le_refl _)]
  refine gr_drop (L' := [(b4, .cells (encId (sum purpose parts)).toArray 34 (0, 0))] ++ L) (List.sublist_append_right _ _) ?_
  refine gr_nil ?_
  refine gk_then ?_
  refine gc_ret ?_
  refine gk_result (L' := L) (.inl rfl) _ (resC1 rfl rfl Tryd.ta34 (by first | (apply Cells.own; (repeat (first | exact List.mem_cons_self | apply List.mem_cons_of_mem)); done) | assumption) (by first | exact Seg.all _ | exact Seg.head | assumption) (by first | exact encId_length _ | exact encOp_length _ _ | exact encDraft_length _ | rfl | simp)) (by repeat (first | exact List.Sublist.refl _ | apply List.Sublist.cons_cons | apply List.Sublist.cons | apply List.Sublist.append (List.Sublist.refl _) | refine List.Sublist.trans ?_ (List.sublist_append_right _ _))) (by first | exact Gh.le_refl _ | assumption | exact Gh.le_trans (by assumption) (by assumption)) ?_
  exact ⟨rfl, rfl, rfl⟩
theorem rsum_cc (H : Gh) (L : Chunks) (purpose : Bs) (v : Value) (parts : List Bs) (hv : Strs H L v parts) (hb : (listB (purpose :: parts)).length < 549755813888) (hpl : parts.length < 1099511627776) :
    CC Tryd.prog 51 #[str purpose, v] H L (fun u H' L' => u = ag (encId (sum purpose parts)) ∧ H = H' ∧ L = L') := by
  refine cc_of Tryd.func51 rfl (Nat.le_of_ble_eq_true rfl) ?_
  simp only [Tryd.ntmps51]
  refine gc_seq ?_
  refine gc_seqr [(.nm, 0)] rfl ?_
  refine gr_nx rfl rfl rfl (nx_alloc Tryd.zeroValue34 rfl) ?_; rintro _ _ _ _ ⟨b4, rfl, rfl, rfl⟩; refine ⟨trivial, ?_⟩
  refine gr_nil ?_
  refine gk_then ?_
  refine gc_seq ?_
  refine gc_seqr [(.mv, 0), (.nm, 1), (.mv, 2), (.nm, 3), (.nm, 4), (.nm, 5), (.nm, 6)] rfl ?_
  refine gr_rd rfl rfl rfl (rd_move rfl) ?_
  refine gr_nx rfl rfl rfl (nx_slice1 (vs := [_]) Tryd.underlying69 Tryd.sizeOf9 Tryd.zeroValue9 rfl rfl rfl (by first | exact oneCells_of_all rfl | assumption) rfl rfl) ?_; rintro _ _ _ _ ⟨b6, rfl, rfl, rfl⟩; refine ⟨trivial, ?_⟩
  refine gr_rd rfl rfl rfl (rd_move rfl) ?_
  refine gr_nx rfl rfl rfl (nx_append Tryd.app69_69 rfl rfl (Ow.new (b := b6) (e := 9) (k := 1) (n := 1) (cs := [str purpose]) rfl) (by repeat (first | exact Pick.here | exact Pick.one | apply Pick.there | apply Pick.app)) (src_strs (hv.mono (Gh.le_refl _) (fun x hx => List.mem_cons_of_mem _ (List.mem_cons_of_mem _ hx)))) (by omega) (by omega)) ?_; rintro v8 H' L' hle ⟨C1, hO1, _, rfl, rfl⟩; refine ⟨trivial, ?_⟩
  refine gr_nx rfl rfl rfl (nx_call Tryd.en78 rfl (rlist_cc _ _ _ (purpose :: parts) (strs_ow (ls := purpose :: parts) (n := 1 + parts.length) hO1 (by simp; omega) (by omega) (fun x hx => List.mem_append_left _ hx)) (by omega))) ?_; rintro v9 H' L' hle ⟨rfl, rfl, rfl⟩; refine ⟨trivial, ?_⟩
  refine gr_nx rfl rfl rfl (nx_call Tryd.en77 rfl (rof_cc _ _ _ hb)) ?_; rintro v10 H' L' hle ⟨rfl, rfl, rfl⟩; refine ⟨trivial, ?_⟩
  refine gr_nx0 rfl rfl (nx_store (vs := encId (sum purpose parts)) Tryd.sizeOf34 rfl rfl rfl (encId_length _) (Upd.app Upd.here) (by simp) (encId_ones _)) ?_; rintro _ _ _ _ ⟨rfl, rfl, rfl⟩; refine ⟨trivial, ?_⟩
  rw [wr_all (by rw [encId_length]; exact Nat.le_refl _)]
  refine gr_drop (L' := [(b4, .cells (encId (sum purpose parts)).toArray 34 (0, 0))] ++ L) (List.sublist_append_right _ _) ?_
  refine gr_nil ?_
  refine gk_then ?_
  refine gc_ret ?_
  refine gk_result (L' := L) (.inl rfl) _ (resC1 rfl rfl Tryd.ta34 (by first | (apply Cells.own; (repeat (first | exact List.mem_cons_self | apply List.mem_cons_of_mem)); done) | assumption) (by first | exact Seg.all _ | exact Seg.head | assumption) (by first | exact encId_length _ | exact encOp_length _ _ | exact encDraft_length _ | rfl | simp)) (by repeat (first | exact List.Sublist.refl _ | apply List.Sublist.cons_cons | apply List.Sublist.cons | apply List.Sublist.append (List.Sublist.refl _) | refine List.Sublist.trans ?_ (List.sublist_append_right _ _))) (by first | exact Gh.le_refl _ | assumption | exact Gh.le_trans (by assumption) (by assumption)) ?_
  exact ⟨rfl, rfl, rfl⟩
theorem draft_cc (H : Gh) (L : Chunks) (d : Draft) (hd : SmallD d) :
    CC Tryd.prog 94 #[ag (encDraft d)] H L (fun u H' L' => u = str (draftB d) ∧ H = H' ∧ L = L') := by
  have hlen := draftB_len hd
  have hkind := hd.kind
  refine cc_of Tryd.func94 rfl (Nat.le_of_ble_eq_true rfl) ?_
  simp only [Tryd.ntmps94]
  refine gc_seq ?_
  refine gc_seqr [(.nm, 0), (.mv, 1)] rfl ?_
  refine gr_nx rfl rfl rfl (nx_box rfl rfl) ?_; rintro _ _ _ _ ⟨b1, rfl, rfl, rfl⟩; refine ⟨trivial, ?_⟩
  refine gr_rd rfl rfl rfl (rd_assign rfl) ?_
  refine gr_nil ?_
  refine gk_then ?_
  refine gc_seq ?_
  refine gc_draw Tryd.mixed [(.mv, 0), (.mv, 1), (.mv, 3), (.mv, 4), (.mv, 5), (.mv, 6), (.mv, 7), (.mv, 8), (.mv, 9), (.nm, 2), (.fin, 10), (.fin, 11), (.fin, 12)] (by decide +kernel) _ (List.Sublist.refl _) ?_
  refine gr_rd rfl rfl rfl (rd_fieldAddr Tryd.fa36_0 rfl) ?_
  refine gr_rd rfl rfl rfl (rd_load1 Tryd.to3 rfl (by first | (apply Cells.own; (repeat (first | exact List.mem_cons_self | apply List.mem_cons_of_mem)); done) | assumption) (by first | rfl | assumption | exact encOp_37 _ _ | exact encOp_36 _ _ | exact encOp_35 _ _ | exact encOp_0 _ _ | exact encOp_1 _ _ | exact encOp_2 _ _ | exact encDraft_0 _ | exact encDraft_1 _ | exact encDraft_2 _ | simp)) ?_
  refine gr_rd rfl rfl rfl (rd_fieldAddr Tryd.fa36_1 rfl) ?_
  refine gr_rd rfl rfl rfl (rd_load1 Tryd.to9 rfl (by first | (apply Cells.own; (repeat (first | exact List.mem_cons_self | apply List.mem_cons_of_mem)); done) | assumption) (by first | rfl | assumption | exact encOp_37 _ _ | exact encOp_36 _ _ | exact encOp_35 _ _ | exact encOp_0 _ _ | exact encOp_1 _ _ | exact encOp_2 _ _ | exact encDraft_0 _ | exact encDraft_1 _ | exact encDraft_2 _ | simp)) ?_
  refine gr_rd rfl rfl rfl (rd_fieldAddr Tryd.fa36_2 rfl) ?_
  refine gr_rd rfl rfl rfl (rd_load1 Tryd.to9 rfl (by first | (apply Cells.own; (repeat (first | exact List.mem_cons_self | apply List.mem_cons_of_mem)); done) | assumption) (by first | rfl | assumption | exact encOp_37 _ _ | exact encOp_36 _ _ | exact encOp_35 _ _ | exact encOp_0 _ _ | exact encOp_1 _ _ | exact encOp_2 _ _ | exact encDraft_0 _ | exact encDraft_1 _ | exact encDraft_2 _ | simp)) ?_
  refine gr_rd rfl rfl rfl (rd_fieldAddr Tryd.fa36_3 rfl) ?_
  refine gr_rd rfl rfl rfl (rd_sliceArr Tryd.underlying34 Tryd.sizeOf5 rfl) ?_
  refine gr_rd rfl rfl rfl (rd_idStr d.ref Tryd.underlying117 Tryd.underlying9 Tryd.underlying5 rfl (Cells.own List.mem_cons_self) (encDraft_seg_ref d)) ?_
  refine gr_nx rfl rfl rfl (nx_call Tryd.en93 rfl (num_cc _ _ _ hd.kind)) ?_; rintro v5 H' L' hle ⟨rfl, rfl, rfl⟩; refine ⟨⟨(by first | exact Gh.le_refl _ | assumption | exact Gh.le_trans (by assumption) (by assumption)), (by repeat (first | exact List.Sublist.refl _ | exact List.nil_sublist _ | apply List.Sublist.cons_cons | apply List.Sublist.cons | apply List.Sublist.append (List.Sublist.refl _) | refine List.Sublist.trans ?_ (List.sublist_append_right _ _)))⟩, ?_⟩
  refine gr_fin rfl rfl rfl (nx_slice1 (vs := [_, _, _, _]) Tryd.underlying69 Tryd.sizeOf9 Tryd.zeroValue9 rfl rfl rfl (by first | exact oneCells_of_all rfl | assumption) rfl rfl) ?_; rintro _ _ _ _ ⟨b13, rfl, rfl, rfl⟩
  refine gr_fin rfl rfl rfl (nx_call Tryd.en92 rfl (list_cc _ _ _ [numB d.kind.toNat, d.key, d.value, d.ref.bytes] (strs_new rfl (by omega) List.mem_cons_self) (by show (draftB d).length < _; omega))) ?_; rintro v14 H' L' hle ⟨rfl, rfl, rfl⟩
  refine gr_fin rfl rfl rfl (Rd.nx (rd_assign rfl)) ?_; rintro _ _ _ _ ⟨rfl, rfl, rfl⟩
  refine gr_nil ?_
  refine gk_then ?_
  refine gc_ret ?_
  refine gk_result (L' := L) (.inl rfl) _ (res1 rfl rfl) (by repeat (first | exact List.Sublist.refl _ | apply List.Sublist.cons_cons | apply List.Sublist.cons | apply List.Sublist.append (List.Sublist.refl _) | refine List.Sublist.trans ?_ (List.sublist_append_right _ _))) (by first | exact Gh.le_refl _ | assumption | exact Gh.le_trans (by assumption) (by assumption)) ?_
  exact ⟨rfl, rfl, rfl⟩
theorem rdraft_cc (H : Gh) (L : Chunks) (d : Draft) (hd : SmallD d) :
    CC Tryd.prog 80 #[ag (encDraft d)] H L (fun u H' L' => u = str (draftB d) ∧ H = H' ∧ L = L') := by
  have hlen := draftB_len hd
  have hkind := hd.kind
  refine cc_of Tryd.func80 rfl (Nat.le_of_ble_eq_true rfl) ?_
  simp only [Tryd.ntmps80]
  refine gc_seq ?_
  refine gc_seqr [(.nm, 0), (.mv, 1)] rfl ?_
  refine gr_nx rfl rfl rfl (nx_box rfl rfl) ?_; rintro _ _ _ _ ⟨b1, rfl, rfl, rfl⟩; refine ⟨trivial, ?_⟩
  refine gr_rd rfl rfl rfl (rd_assign rfl) ?_
  refine gr_nil ?_
  refine gk_then ?_
  refine gc_seq ?_
  refine gc_draw Tryd.mixed [(.mv, 0), (.mv, 1), (.mv, 3), (.mv, 4), (.mv, 5), (.mv, 6), (.mv, 7), (.mv, 8), (.mv, 9), (.nm, 2), (.fin, 10), (.fin, 11), (.fin, 12)] (by decide +kernel) _ (List.Sublist.refl _) ?_
  refine gr_rd rfl rfl rfl (rd_fieldAddr Tryd.fa36_0 rfl) ?_
  refine gr_rd rfl rfl rfl (rd_load1 Tryd.to3 rfl (by first | (apply Cells.own; (repeat (first | exact List.mem_cons_self | apply List.mem_cons_of_mem)); done) | assumption) (by first | rfl | assumption | exact encOp_37 _ _ | exact encOp_36 _ _ | exact encOp_35 _ _ | exact encOp_0 _ _ | exact encOp_1 _ _ | exact encOp_2 _ _ | exact encDraft_0 _ | exact encDraft_1 _ | exact encDraft_2 _ | simp)) ?_
  refine gr_rd rfl rfl rfl (rd_fieldAddr Tryd.fa36_1 rfl) ?_
  refine gr_rd rfl rfl rfl (rd_load1 Tryd.to9 rfl (by first | (apply Cells.own; (repeat (first | exact List.mem_cons_self | apply List.mem_cons_of_mem)); done) | assumption) (by first | rfl | assumption | exact encOp_37 _ _ | exact encOp_36 _ _ | exact encOp_35 _ _ | exact encOp_0 _ _ | exact encOp_1 _ _ | exact encOp_2 _ _ | exact encDraft_0 _ | exact encDraft_1 _ | exact encDraft_2 _ | simp)) ?_
  refine gr_rd rfl rfl rfl (rd_fieldAddr Tryd.fa36_2 rfl) ?_
  refine gr_rd rfl rfl rfl (rd_load1 Tryd.to9 rfl (by first | (apply Cells.own; (repeat (first | exact List.mem_cons_self | apply List.mem_cons_of_mem)); done) | assumption) (by first | rfl | assumption | exact encOp_37 _ _ | exact encOp_36 _ _ | exact encOp_35 _ _ | exact encOp_0 _ _ | exact encOp_1 _ _ | exact encOp_2 _ _ | exact encDraft_0 _ | exact encDraft_1 _ | exact encDraft_2 _ | simp)) ?_
  refine gr_rd rfl rfl rfl (rd_fieldAddr Tryd.fa36_3 rfl) ?_
  refine gr_rd rfl rfl rfl (rd_sliceArr Tryd.underlying34 Tryd.sizeOf5 rfl) ?_
  refine gr_rd rfl rfl rfl (rd_idStr d.ref Tryd.underlying117 Tryd.underlying9 Tryd.underlying5 rfl (Cells.own List.mem_cons_self) (encDraft_seg_ref d)) ?_
  refine gr_nx rfl rfl rfl (nx_call Tryd.en79 rfl (rnum9_cc _ _ _ hd.kind)) ?_; rintro v5 H' L' hle ⟨rfl, rfl, rfl⟩; refine ⟨⟨(by first | exact Gh.le_refl _ | assumption | exact Gh.le_trans (by assumption) (by assumption)), (by repeat (first | exact List.Sublist.refl _ | exact List.nil_sublist _ | apply List.Sublist.cons_cons | apply List.Sublist.cons | apply List.Sublist.append (List.Sublist.refl _) | refine List.Sublist.trans ?_ (List.sublist_append_right _ _)))⟩, ?_⟩
  refine gr_fin rfl rfl rfl (nx_slice1 (vs := [_, _, _, _]) Tryd.underlying69 Tryd.sizeOf9 Tryd.zeroValue9 rfl rfl rfl (by first | exact oneCells_of_all rfl | assumption) rfl rfl) ?_; rintro _ _ _ _ ⟨b13, rfl, rfl, rfl⟩
  refine gr_fin rfl rfl rfl (nx_call Tryd.en78 rfl (rlist_cc _ _ _ [numB d.kind.toNat, d.key, d.value, d.ref.bytes] (strs_new rfl (by omega) List.mem_cons_self) (by show (draftB d).length < _; omega))) ?_; rintro v14 H' L' hle ⟨rfl, rfl, rfl⟩
  refine gr_fin rfl rfl rfl (Rd.nx (rd_assign rfl)) ?_; rintro _ _ _ _ ⟨rfl, rfl, rfl⟩
  refine gr_nil ?_
  refine gk_then ?_
  refine gc_ret ?_
  refine gk_result (L' := L) (.inl rfl) _ (res1 rfl rfl) (by repeat (first | exact List.Sublist.refl _ | apply List.Sublist.cons_cons | apply List.Sublist.cons | apply List.Sublist.append (List.Sublist.refl _) | refine List.Sublist.trans ?_ (List.sublist_append_right _ _))) (by first | exact Gh.le_refl _ | assumption | exact Gh.le_trans (by assumption) (by assumption)) ?_
  exact ⟨rfl, rfl, rfl⟩
end Go.Proofs.YtfhldfjknagidaaDoor
