/-
  One cell of an owned slice is written.
-/
import Derived.Test.YtfhldfjknagidaaDoorVKr
set_option linter.unusedSimpArgs false
set_option linter.unusedVariables false
set_option linter.unnecessarySimpa false
set_option linter.all false
namespace Go.VK
open Go.Tr
section
variable {P : Program} {E : Env} {H : Gh} {L L' : Chunks} {t T : TypeId} {x y : Operand}
theorem wr_one (l r : List Value) (o : Nat) (v : Value) (h : o < l.length) : (l ++ r).take o ++ [v] ++ (l ++ r).drop (o + 1) = l.set o v ++ r := by
  rw [List.take_append_of_le_length (by omega), List.drop_append_of_le_length (by omega), List.set_eq_take_append_cons_drop, if_pos h]
  simp
theorem nx_storeOw {e k n cap b o : Nat} {C : Chunks} {cs : List Value} {v : Value} (hT : ∀ w, (sizeOf T).run P w = .ok 1 w) (hO : Ow e k C (.slice (some ⟨b, 0, none⟩) n cap) n cs) (hx : ev E x = some (pt b o)) (hy : ev E y = some v)
    (ho : o < cs.length) (h1 : v.oneCell' = true) (hC : Pick C L L') :
    Nx P E H L (.store T x y) t (fun u H' L'' => u = undef ∧ H = H' ∧ ∃ C', Ow e k C' (.slice (some ⟨b, 0, none⟩) n cap) n (cs.set o v) ∧ L'' = C' ++ L') :=
  Nx.of_run fun a w m hA hS => by
    obtain ⟨hlen, h | ⟨b', cap', rest, z, hv, hcap, hrest, rfl, hz⟩⟩ := hO
    · cases h.1
    cases hv
    have hS1 := hS.perm hC.perm
    have hb := (hS1.own (b, .cells (cs ++ rest).toArray e z) (List.mem_append_left _ List.mem_cons_self)).1
    have hsz : v.cells.toList = [v] := cells1 h1
    have hsz1 : v.cells.size = 1 := by rw [← Array.length_toList, hsz]; rfl
    have h2 := run_storeCells_z (P := P) b o e z [v] 0 (cs ++ rest).toArray w hb (by simp; omega) (hz.imp id fun h => by simp at h ⊢; omega) (fun u hu => by rw [List.mem_singleton.1 hu]; exact h1)
    have h3 := setRow_heap w b (cs ++ rest).toArray ((cs ++ rest).take o ++ [v] ++ (cs ++ rest).drop (o + 1)).toArray e z hb
    have h4 := hS1.put (k := 0) (b := b) (o := .cells (cs ++ rest).toArray e z) rfl (.cells (cs.set o v ++ rest).toArray e z) (w' := w.setRow b ((cs ++ rest).take o ++ [v] ++ (cs ++ rest).drop (o + 1)).toArray) rfl rfl (Nat.le_refl _) rfl
      (by rw [← wr_one cs rest o v ho]; exact h3) (fun i hi => setRow_get hi)
    refine ⟨.skip, _, H, [(b, .cells (cs.set o v ++ rest).toArray e z)] ++ L', undef, ?_, .inr ⟨rfl, rfl⟩, Gh.le_refl _, h4, rfl, rfl, _, ⟨by simpa using hlen, .inr ⟨b, cap, rest, z, rfl, hcap, hrest, rfl, hz.imp id fun h => by simpa using h⟩⟩, rfl⟩
    simp only [execOp, hA.ev hx, hA.ev hy, Instr.storeAt, Instr.sureAddr, storeVar]
    simp only [Sem.run_bind, Sem.run_pure, Result.andThen_ok, hT, hsz1, ne_eq, not_true_eq_false, if_false, hsz]
    have h5 : (storeCells ⟨b, o, none⟩ [v]).run P w = .ok () (w.setRow b ((cs ++ rest).take o ++ [v] ++ (cs ++ rest).drop (o + 1)).toArray) := by
      rw [h2]; simp
    rw [h5]
    rfl
/-- All cells are bytes. -/
def AllB (cs : List Value) : Prop := ∀ x ∈ cs, ∃ u : UInt8, x = u8v u
theorem AllB.set {cs : List Value} (h : AllB cs) (o : Nat) (u : UInt8) : AllB (cs.set o (u8v u)) := fun x hx => by
  rcases List.mem_or_eq_of_mem_set hx with hx | rfl
  · exact h x hx
  · exact ⟨u, rfl⟩
theorem AllB.ids (xs : List Nm) : AllB (xs.flatMap encId) := fun x hx => by
  obtain ⟨n, _, hx⟩ := List.mem_flatMap.1 hx
  obtain ⟨u, _, rfl⟩ := List.mem_map.1 hx
  exact ⟨u, rfl⟩
theorem u8_wrap (z : Int) : ∃ u : UInt8, IntKind.u8.wrap z = (u.toNat : Int) := by
  refine ⟨UInt8.ofNat (z % 256).toNat, ?_⟩
  have e : IntKind.u8.wrap z = z % 256 := by simp [IntKind.wrap, IntKind.bits, IntKind.signed]
  have h1 : (UInt8.ofNat (z % 256).toNat).toNat = (z % 256).toNat := by simp; omega
  rw [e, h1]; omega
/-- The place of an element of an owned slice that is not empty. -/
theorem Ow.at_byte {e n cap j : Nat} {C : Chunks} {a : Option Addr} {cs : List Value} (hO : Ow e 32 C (.slice a n cap) n cs) (hB : AllB cs) (hj : j < n) :
    ∃ b l u, a = some ⟨b, 0, none⟩ ∧ (∀ (H : Gh) (L : Chunks), (∀ x ∈ C, x ∈ L) → Cells H L b l) ∧ l[j * 32]? = some (u8v u) ∧ j * 32 < cs.length ∧ n ≤ cap := by
  obtain ⟨b, l, h1, h2, h3⟩ := hO.elem (by omega)
  have hlen := hO.len
  have hlt : j * 32 < cs.length := by omega
  obtain ⟨u, hu⟩ := hB _ (List.getElem_mem hlt)
  have h4 := h3 (j * 32) _ (by rw [List.getElem?_eq_getElem hlt, hu])
  obtain ⟨a', cap', hv, hc⟩ := hO.slice
  cases hv
  exact ⟨b, l, u, h1, h2, by simpa using h4, hlt, hc⟩
end
end Go.VK
