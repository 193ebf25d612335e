/-
  What each operation gives: two byte slices compared.
-/
import Derived.Test.YtfhldfjknagidaaDoorVKj
import Derived.Laws.Externs
import Derived.Lib.BytesEntry
set_option linter.unusedSimpArgs false
set_option linter.unusedVariables false
namespace Go.VK
open Go.Tr Go.Lib

theorem cmp_go : ∀ (l l' : Bs), (match (List.range (min l.length l'.length)).find? fun i => l.getD i 0 != l'.getD i 0 with
    | some i => if l.getD i 0 < l'.getD i 0 then (-1 : Int) else 1
    | none => if l.length < l'.length then -1 else if l.length > l'.length then 1 else 0) = cmpB l l'
  | [], [] => rfl
  | [], b :: y => by simp [cmpB]
  | a :: x, [] => by simp [cmpB]
  | a :: x, b :: y => by
    have ih := cmp_go x y
    have hm : min (a :: x).length (b :: y).length = min x.length y.length + 1 := by simp only [List.length_cons]; omega
    rw [hm, List.range_succ_eq_map, List.find?_cons]
    by_cases hab : a = b
    · subst hab
      have e : ((a :: x).getD 0 0 != (a :: y).getD 0 0) = false := by simp
      rw [e]
      simp only [List.find?_map]
      have e2 : ((fun i => (a :: x).getD i 0 != (a :: y).getD i 0) ∘ Nat.succ) = fun i => x.getD i 0 != y.getD i 0 := by
        funext i; simp
      rw [e2]
      have hc : cmpB (a :: x) (a :: y) = cmpB x y := by simp [cmpB]
      rw [hc, ← ih]
      cases (List.range (min x.length y.length)).find? fun i => x.getD i 0 != y.getD i 0 with
      | none => simp
      | some i => simp
    · have e : ((a :: x).getD 0 0 != (b :: y).getD 0 0) = true := by simpa using hab
      rw [e]
      simp only [cmpB, List.getD_cons_zero]
      by_cases h1 : a < b
      · rw [if_pos h1, if_pos h1]
      · rw [if_neg h1, if_neg h1]
        have : b < a := by
          rw [UInt8.lt_iff_toNat_lt] at h1 ⊢
          have : a.toNat ≠ b.toNat := fun e => hab (UInt8.toNat_inj.1 e)
          omega
        rw [if_pos this]
theorem getB (l : Bs) (i : Nat) : (ByteArray.mk l.toArray)[i]! = l.getD i 0 := by
  by_cases h : i < l.length
  · have h2 : i < (ByteArray.mk l.toArray).size := by simpa [size_str] using h
    rw [getElem!_pos (ByteArray.mk l.toArray) i h2]
    simp [ByteArray.getElem_eq_getElem_data, List.getD_eq_getElem?_getD, h]
  · have h2 : ¬ i < (ByteArray.mk l.toArray).size := by simpa [size_str] using h
    rw [getElem!_neg (ByteArray.mk l.toArray) i h2]
    simp [List.getD_eq_getElem?_getD, h]
    rfl
theorem cmp_eq (l l' : Bs) : Extern.BytealgCompare.cmp ⟨l.toArray⟩ ⟨l'.toArray⟩ = cmpB l l' := by
  rw [← cmp_go]
  simp only [Extern.BytealgCompare.cmp, getB, size_str]
  rfl
theorem run_bytesOf_seg {P : Program} {w : World} {H : Gh} {L : Chunks} {b o cap : Nat} {l : List Value} {bs : Bs} (hS : Sat w H L) (hc : Cells H L b l) (hsg : Seg l o (bs.map u8v)) :
    (Extern.Bytes.bytesOf (.slice (some ⟨b, o, none⟩) bs.length cap)).run P w = .ok ⟨bs.toArray⟩ w := by
  have h := run_loadBytesX (P := P) w (bs.map fun q => (q.toNat : Int)) ⟨b, o, none⟩ .empty (fun j x hj => by
    rw [addr_add]
    refine hc.cell hS (hsg j _ ?_)
    simp only [List.getElem?_map] at hj ⊢
    cases hq : bs[j]? with
    | none => rw [hq] at hj; cases hj
    | some q => rw [hq] at hj; cases hj; rfl)
  simp only [Extern.Bytes.bytesOf]
  rw [List.length_map] at h
  rw [h]
  congr 1
  apply ByteArray.ext
  have e : ((fun n : Int => UInt8.ofNat n.toNat) ∘ fun q : UInt8 => (q.toNat : Int)) = id := by funext q; simp
  simp [Lib.bytesOf, e]
section
variable {P : Program} {E : Env} {H : Gh} {L : Chunks} {t : TypeId} {x y : Operand}
theorem rd_compare {f : FuncId} {fn : Func} {ts : Array TypeId} {b o cap b' o' cap' : Nat} {l l' : List Value} {p q : Bs} (hf : P.funcs[f]? = some fn) (hname : (fn.name == "runtime.NumGoroutine") = false) (hb : fn.body.isNone = true)
    (hn : Extern.findNext fn = none) (he : Extern.find fn = some Extern.BytealgCompare.compare) {m m' : Nat} (hm : p.length = m) (hm' : q.length = m')
    (hx : ev E x = some (.slice (some ⟨b, o, none⟩) m cap)) (hy : ev E y = some (.slice (some ⟨b', o', none⟩) m' cap'))
    (hc : Cells H L b l) (hs : Seg l o (p.map u8v)) (hc' : Cells H L b' l') (hs' : Seg l' o' (q.map u8v)) :
    Rd P E H L (.call ⟨.value (.func f), #[x, y], ts⟩) t (i64 (cmpB p q)) := fun a w n hA hS => by
  subst hm hm'
  have h1 := run_bytesOf_seg (P := P) (cap := cap) hS hc hs
  have h2 := run_bytesOf_seg (P := P) (cap := cap') hS hc' hs'
  have h3 : (Extern.BytealgCompare.compare #[.slice (some ⟨b, o, none⟩) p.length cap, .slice (some ⟨b', o', none⟩) q.length cap']).run P w = .ok (i64 (cmpB p q)) w := by
    have e5 : Extern.BytealgCompare.compare #[.slice (some ⟨b, o, none⟩) p.length cap, .slice (some ⟨b', o', none⟩) q.length cap'] = (do pure (goInt (Extern.BytealgCompare.cmp (← Extern.Bytes.bytesOf (.slice (some ⟨b, o, none⟩) p.length cap)) (← Extern.Bytes.bytesOf (.slice (some ⟨b', o', none⟩) q.length cap'))))) := rfl
    rw [e5]
    simp only [Sem.run_bind, h1, h2, Result.andThen_ok, cmp_eq]
    rfl
  have h4 := run_callFunc_extern hf hname hb hn he #[.slice (some ⟨b, o, none⟩) p.length cap, .slice (some ⟨b', o', none⟩) q.length cap'] w
  rw [h3] at h4
  have e3 : (execOp a.eval ⟨none, .call ⟨.value (.func f), #[x, y], ts⟩, t, "", #[], none⟩) = (do let d ← resolve a.eval ⟨.value (.func f), #[x, y], ts⟩ t; invoke d.target d.args) := rfl
  have e4 : a.eval (.func f) = .func (.func f) #[] #[] := rfl
  rw [e3]
  simp only [resolve, e4, Deferred.ofValue]
  simpa [invoke, hA.ev hx, hA.ev hy] using h4
end
end Go.VK
