/-
  What each operation gives: composite values, slices of literals, append, bytes of a string.
-/
import Derived.Test.YtfhldfjknagidaaDoorVKg
set_option linter.unusedSimpArgs false
set_option linter.unusedVariables false
namespace Go.VK

/-! ## Composite values -/
theorem foldl_set : ∀ (l mid pre post : List Value), mid.length = l.length → ∀ (off j : Nat), off + j = pre.length →
    (l.zipIdx j).foldl (fun (cs : Array Value) (p : Value × Nat) => cs.setIfInBounds (off + p.2) p.1) (pre ++ mid ++ post).toArray = (pre ++ l ++ post).toArray
  | [], mid, pre, post, h, off, j, _ => by
    have : mid = [] := List.length_eq_zero_iff.1 (by simpa using h)
    subst this; simp
  | x :: l, [], pre, post, h, off, j, _ => by simp at h
  | x :: l, m :: mid, pre, post, h, off, j, hj => by
    rw [List.zipIdx_cons, List.foldl_cons]
    have e : ((pre ++ m :: mid ++ post).toArray.setIfInBounds (off + j) x) = ((pre ++ [x]) ++ mid ++ post).toArray := by
      rw [hj]
      simp
    simp only [e]
    have := foldl_set l mid (pre ++ [x]) post (by simpa using h) off (j + 1) (by simp; omega)
    rw [this]
    simp

theorem fill_step {place : Nat → Option (Nat × Nat)} {i off size : Nat} {v : Value} {vl pre mid post : List Value} {rest : List (Nat × Value)} (hp : place i = some (off, size)) (hv : v.cells = vl.toArray)
    (hl : vl.length = size) (ho : pre.length = off) (hm : mid.length = size) :
    Instr.fill place (pre ++ mid ++ post).toArray ((i, v) :: rest) = Instr.fill place (pre ++ vl ++ post).toArray rest := by
  rw [Instr.fill, hp]
  simp only
  rw [if_neg (by rw [hv]; simp; omega), hv, ← Array.foldl_toList, Array.toList_zipIdx]
  have := foldl_set vl mid pre post (by omega) off 0 (by omega)
  rw [this]

/-- l with vl written from off on, as 'fill' writes it. -/
theorem fill_wr {place : Nat → Option (Nat × Nat)} {i off size : Nat} {v : Value} {vl zl : List Value} {rest : List (Nat × Value)} (hp : place i = some (off, size)) (hv : v.cells = vl.toArray)
    (hl : vl.length = size) (ho : off + size ≤ zl.length) :
    Instr.fill place zl.toArray ((i, v) :: rest) = Instr.fill place (wr zl off vl).toArray rest := by
  have e : zl = zl.take off ++ (zl.drop off).take size ++ zl.drop (off + size) := by
    rw [List.append_assoc, ← List.drop_drop, List.take_append_drop, List.take_append_drop]
  have := fill_step (place := place) (i := i) (v := v) (rest := rest) (pre := zl.take off) (mid := (zl.drop off).take size) (post := zl.drop (off + size)) hp hv hl (by simp; omega) (by simp; omega)
  rw [← e] at this
  rw [this, wr, hl]

def evp (E : Env) : List (Nat × Operand) → Option (List (Nat × Value))
  | [] => some []
  | (i, x) :: r => match ev E x, evp E r with
    | some v, some vs => some ((i, v) :: vs)
    | _, _ => none
theorem evp_spec {a : Act} {n : Nat} {E : Env} (hA : At a n E) : ∀ (xs : List (Nat × Operand)) (vs : List (Nat × Value)), evp E xs = some vs → (xs.map fun p => (p.1, a.eval p.2)) = vs
  | [], vs, h => by simp [evp] at h; subst h; rfl
  | (i, x) :: r, vs, h => by
    simp only [evp] at h
    split at h
    · rename_i v vs' hv hvs
      cases h
      rw [List.map_cons, hA.ev hv, evp_spec hA r vs' hvs]
    · cases h

section
variable {P : Program} {E : Env} {H : Gh} {L L' : Chunks} {t T T' : TypeId} {x y c : Operand} {v u : Value} {b o : Nat} {k : IntKind} {m q r : Int}

/-- How a struct's (an array's) value is put together. -/
def BuildT (P : Program) (T : TypeId) (place : Nat → Option (Nat × Nat)) (zl : List Value) : Prop :=
  ∀ (ps : List (Nat × Value)) (l : List Value) w, Instr.fill place zl.toArray ps = some l.toArray → (Instr.build T ps.toArray).run P w = .ok (ag l) w

theorem buildT_array {n e k : Nat} {zl : List Value} {z : Value} (hT : P.underlying T = some (.array n e)) (hz : ∀ w, (zeroValue T).run P w = .ok z w) (hzl : z.cells = zl.toArray) (hk : ∀ w, (sizeOf e).run P w = .ok k w) :
    BuildT P T (fun i => some (i * k, k)) zl := fun ps l w h => by
  simp [Instr.build, hz, run_underlying hT, hk, hzl, h]

theorem rd_build {place : Nat → Option (Nat × Nat)} {zl l : List Value} {xs : List (Nat × Operand)} {ps : List (Nat × Value)} (hB : BuildT P T place zl) (hxs : evp E xs = some ps)
    (hf : Instr.fill place zl.toArray ps = some l.toArray) : Rd P E H L (.build T xs.toArray) t (ag l) := fun a w n hA _ => by
  have h := hB ps l w hf
  have e : (xs.toArray.map fun p => (p.1, a.eval p.2)) = ps.toArray := by rw [List.map_toArray, evp_spec hA xs ps hxs]
  have e2 : (execOp a.eval ⟨none, .build T xs.toArray, t, "", #[], none⟩) = (do pure (.value (← Instr.build T (xs.toArray.map fun p => (p.1, a.eval p.2))))) := rfl
  rw [e2, e, Sem.run_bind, h]
  rfl

theorem fill_flat (k : Nat) : ∀ (vs : List Value) (i : Nat) (pre post : List Value), pre.length = i * k → post.length = vs.length * k → (∀ v ∈ vs, v.cells.size = k) →
    Instr.fill (fun i => some (i * k, k)) (pre ++ post).toArray ((vs.zipIdx i).map fun p => (p.2, p.1)) = some (pre ++ vs.flatMap fun v => v.cells.toList).toArray
  | [], i, pre, post, h1, h2, _ => by
    have : post = [] := List.length_eq_zero_iff.1 (by simpa using h2)
    subst this; simp [Instr.fill]
  | v :: vs, i, pre, post, h1, h2, h3 => by
    rw [List.zipIdx_cons, List.map_cons]
    have hk : v.cells.toList.length = k := by simpa using h3 v (by simp)
    have h2' : post.length = vs.length * k + k := by rw [h2, List.length_cons, Nat.succ_mul]
    have e : pre ++ post = pre ++ post.take k ++ post.drop k := by simp
    rw [e, fill_step (place := fun i => some (i * k, k)) (vl := v.cells.toList) rfl (by simp) hk h1 (by simp; omega)]
    have ih := fill_flat k vs (i + 1) (pre ++ v.cells.toList) (post.drop k) (by simp only [List.length_append, h1, hk, Nat.succ_mul]) (by simp; omega) (fun u hu => h3 u (by simp [hu]))
    rw [ih]
    simp

theorem nx_buildSlice {e k len : Nat} {z : Value} {xs : List (Nat × Operand)} {ps : List (Nat × Value)} {vs l : List Value} (hT : P.underlying T = some (.slice e)) (hk : ∀ w, (sizeOf e).run P w = .ok k w)
    (hz : ∀ w, (zeroValue e).run P w = .ok z w) (hzl : z.cells.size = k) (hk0 : Nat.blt 0 k = true) (hxs : evp E xs = some ps) (hps : ps = (vs.zipIdx 0).map fun p => (p.2, p.1)) (hvs : ∀ v ∈ vs, v.cells.size = k)
    (hn : vs.length = len) (hbig : Nat.ble (len * k) 16777216 = true) (hl : (vs.flatMap fun v => v.cells.toList) = l) :
    Nx P E H L (.buildSlice T len xs.toArray) t (fun u H' L' => ∃ b, u = .slice (some ⟨b, 0, none⟩) len len ∧ H = H' ∧ L' = (b, .cells l.toArray e (0, 0)) :: L) := by
  subst hl
  refine Nx.of_run fun a w n hA hS => ⟨.value (.slice (some ⟨w.heap.size, 0, none⟩) len len), { w with heap := w.heap.push (.cells (vs.flatMap fun v => v.cells.toList).toArray e (0, 0)) }, H, _, _, ?_,
    .inl rfl, Gh.le_refl _, hS.new _, w.heap.size, rfl, rfl, rfl⟩
  have e1 : (xs.toArray.map fun p => (p.1, a.eval p.2)) = ps.toArray := by rw [List.map_toArray, evp_spec hA xs ps hxs]
  have e2 : (execOp a.eval ⟨none, .buildSlice T len xs.toArray, t, "", #[], none⟩) = (do pure (.value (← Instr.buildSlice T len (xs.toArray.map fun p => (p.1, a.eval p.2))))) := rfl
  have hb : ¬ (len * k > 2 ^ 24) := by have := Nat.le_of_ble_eq_true hbig; omega
  have hkp : 0 < k := by simpa using hk0
  rw [e2, e1]
  have hf : ∀ (zs : Array Value), zs.size = len * k → Instr.fill (fun i => some (i * k, k)) zs ps = some (vs.flatMap fun v => v.cells.toList).toArray := by
    intro zs hzs
    have := fill_flat k vs 0 [] zs.toList (by simp) (by simp [hzs, hn]) hvs
    rw [hps]
    simpa using this
  by_cases h0 : len * k = 0
  · have hf0 := hf ((Array.range (len * k)).map fun i => (#[] : Array Value)[i % (#[] : Array Value).size]!) (by simp)
    simp only [Instr.buildSlice, Sem.run_bind, run_underlying hT, Result.andThen_ok, hk, if_neg hb, if_pos h0, Sem.run_pure]
    simp only [hf0, Sem.run_bind, newRow]
    rfl
  · have hf0 := hf ((Array.range (len * k)).map fun i => z.cells[i % z.cells.size]!) (by simp)
    simp only [Instr.buildSlice, Sem.run_bind, run_underlying hT, Result.andThen_ok, hk, if_neg hb, if_neg h0, Sem.run_pure, hz]
    simp only [hf0, Sem.run_bind, newRow]
    rfl

theorem ny_buildSlice {e k len : Nat} {z : Value} {xs : List (Nat × Operand)} {ps : List (Nat × Value)} {vs l : List Value} (hT : P.underlying T = some (.slice e)) (hk : ∀ w, (sizeOf e).run P w = .ok k w)
    (hz : ∀ w, (zeroValue e).run P w = .ok z w) (hzl : z.cells.size = k) (hk0 : Nat.blt 0 k = true) (hxs : evp E xs = some ps) (hps : ps = (vs.zipIdx 0).map fun p => (p.2, p.1)) (hvs : ∀ v ∈ vs, v.cells.size = k)
    (hn : vs.length = len) (hbig : Nat.ble (len * k) 16777216 = true) (hl : (vs.flatMap fun v => v.cells.toList) = l) :
    Ny P E H L (.buildSlice T len xs.toArray) t (fun u H' L' => ∃ b, u = .slice (some ⟨b, 0, none⟩) len len ∧ H = H' ∧ L' = (b, .cells l.toArray e (0, 0)) :: L) := by
  subst hl
  refine fun a w n hA hS => ⟨.value (.slice (some ⟨w.heap.size, 0, none⟩) len len), { w with heap := w.heap.push (.cells (vs.flatMap fun v => v.cells.toList).toArray e (0, 0)) }, H, _, _, ?_,
    .inl rfl, Gh.le_refl _, hS.new _, w.heap.size, rfl, rfl, rfl⟩
  have e1 : (xs.toArray.map fun p => (p.1, a.eval p.2)) = ps.toArray := by rw [List.map_toArray, evp_spec hA xs ps hxs]
  have e2 : (execOp a.eval ⟨none, .buildSlice T len xs.toArray, t, "", #[], none⟩) = (do pure (.value (← Instr.buildSlice T len (xs.toArray.map fun p => (p.1, a.eval p.2))))) := rfl
  have hb : ¬ (len * k > 2 ^ 24) := by have := Nat.le_of_ble_eq_true hbig; omega
  have hkp : 0 < k := by simpa using hk0
  rw [e2, e1]
  have hf : ∀ (zs : Array Value), zs.size = len * k → Instr.fill (fun i => some (i * k, k)) zs ps = some (vs.flatMap fun v => v.cells.toList).toArray := by
    intro zs hzs
    have := fill_flat k vs 0 [] zs.toList (by simp) (by simp [hzs, hn]) hvs
    rw [hps]
    simpa using this
  by_cases h0 : len * k = 0
  · have hf0 := hf ((Array.range (len * k)).map fun i => (#[] : Array Value)[i % (#[] : Array Value).size]!) (by simp)
    simp only [Instr.buildSlice, Sem.run_bind, run_underlying hT, Result.andThen_ok, hk, if_neg hb, if_pos h0, Sem.run_pure]
    simp only [hf0, Sem.run_bind, newRow]
    rfl
  · have hf0 := hf ((Array.range (len * k)).map fun i => z.cells[i % z.cells.size]!) (by simp)
    simp only [Instr.buildSlice, Sem.run_bind, run_underlying hT, Result.andThen_ok, hk, if_neg hb, if_neg h0, Sem.run_pure, hz]
    simp only [hf0, Sem.run_bind, newRow]
    rfl

theorem ag_cells (l : List Value) : (ag l).cells = l.toArray := rfl
theorem flat_one : ∀ (vs : List Value), (∀ v ∈ vs, v.oneCell' = true) → (vs.flatMap fun v => v.cells.toList) = vs
  | [], _ => rfl
  | v :: r, h => by
    have h1 := h v (by simp)
    have : v.cells = #[v] := by cases v <;> first | rfl | (simp [Value.oneCell'] at h1)
    rw [List.flatMap_cons, this, flat_one r (fun u hu => h u (by simp [hu]))]; rfl
theorem one_size {v : Value} (h : v.oneCell' = true) : v.cells.size = 1 := by cases v <;> first | rfl | (simp [Value.oneCell'] at h)
/-- A literal of elements of one cell. -/
theorem nx_slice1 {e len : Nat} {z : Value} {xs : List (Nat × Operand)} {ps : List (Nat × Value)} {vs : List Value} (hT : P.underlying T = some (.slice e)) (hk : ∀ w, (sizeOf e).run P w = .ok 1 w)
    (hz : ∀ w, (zeroValue e).run P w = .ok z w) (hzl : z.cells.size = 1) (hxs : evp E xs = some ps) (hps : ps = (vs.zipIdx 0).map fun p => (p.2, p.1)) (hvs : oneCells vs) (hn : vs.length = len) (hbig : Nat.ble (len * 1) 16777216 = true) :
    Nx P E H L (.buildSlice T len xs.toArray) t (fun u H' L' => ∃ b, u = .slice (some ⟨b, 0, none⟩) len len ∧ H = H' ∧ L' = (b, .cells vs.toArray e (0, 0)) :: L) :=
  nx_buildSlice hT hk hz hzl rfl hxs hps (fun v hv => one_size (hvs v hv)) hn hbig (flat_one vs hvs)
/-- A literal of one element of k cells; of two. -/
theorem nx_sliceA1 {e k : Nat} {z : Value} {xs : List (Nat × Operand)} {l : List Value} (hT : P.underlying T = some (.slice e)) (hk : ∀ w, (sizeOf e).run P w = .ok k w)
    (hz : ∀ w, (zeroValue e).run P w = .ok z w) (hzl : z.cells.size = k) (hk0 : Nat.blt 0 k = true) (hxs : evp E xs = some [(0, ag l)]) (hl : l.length = k) (hbig : Nat.ble (1 * k) 16777216 = true) :
    Nx P E H L (.buildSlice T 1 xs.toArray) t (fun u H' L' => ∃ b, u = .slice (some ⟨b, 0, none⟩) 1 1 ∧ H = H' ∧ L' = (b, .cells l.toArray e (0, 0)) :: L) :=
  nx_buildSlice (vs := [ag l]) hT hk hz hzl hk0 hxs rfl (fun v hv => by simp at hv; subst hv; simpa [ag_cells] using hl) rfl hbig (by simp [ag_cells])
theorem ny_sliceA1 {e k : Nat} {z : Value} {xs : List (Nat × Operand)} {l : List Value} (hT : P.underlying T = some (.slice e)) (hk : ∀ w, (sizeOf e).run P w = .ok k w)
    (hz : ∀ w, (zeroValue e).run P w = .ok z w) (hzl : z.cells.size = k) (hk0 : Nat.blt 0 k = true) (hxs : evp E xs = some [(0, ag l)]) (hl : l.length = k) (hbig : Nat.ble (1 * k) 16777216 = true) :
    Ny P E H L (.buildSlice T 1 xs.toArray) t (fun u H' L' => ∃ b, u = .slice (some ⟨b, 0, none⟩) 1 1 ∧ H = H' ∧ L' = (b, .cells l.toArray e (0, 0)) :: L) :=
  ny_buildSlice (vs := [ag l]) hT hk hz hzl hk0 hxs rfl (fun v hv => by simp at hv; subst hv; simpa [ag_cells] using hl) rfl hbig (by simp [ag_cells])
theorem nx_sliceA2 {e k : Nat} {z : Value} {xs : List (Nat × Operand)} {l l' : List Value} (hT : P.underlying T = some (.slice e)) (hk : ∀ w, (sizeOf e).run P w = .ok k w)
    (hz : ∀ w, (zeroValue e).run P w = .ok z w) (hzl : z.cells.size = k) (hk0 : Nat.blt 0 k = true) (hxs : evp E xs = some [(0, ag l), (1, ag l')]) (hl : l.length = k) (hl' : l'.length = k) (hbig : Nat.ble (2 * k) 16777216 = true) :
    Nx P E H L (.buildSlice T 2 xs.toArray) t (fun u H' L' => ∃ b, u = .slice (some ⟨b, 0, none⟩) 2 2 ∧ H = H' ∧ L' = (b, .cells (l ++ l').toArray e (0, 0)) :: L) :=
  nx_buildSlice (vs := [ag l, ag l']) hT hk hz hzl hk0 hxs rfl (fun v hv => by simp at hv; rcases hv with rfl | rfl <;> simpa [ag_cells] using (by first | exact hl | exact hl')) rfl hbig (by simp [ag_cells])

/-! ## Append -/
/-- What append takes its new elements from. -/
def Src (P : Program) (H : Gh) (L : Chunks) (k : Nat) (x : Value) (m : Nat) (new : List Value) : Prop :=
  new.length = m * k ∧ oneCells new ∧ ∀ w, Sat w H L → (Builtin.lenOf x).run P w = .ok m w ∧ (Builtin.firstCells k m x).run P w = .ok new.toArray w
theorem src_slice {k cap m : Nat} {a : Option Addr} {l new : List Value} (hn : new.length = m * k) (h1 : oneCells new) (hnil : a = none → new = []) (hne : a ≠ none → new ≠ [] → a = some ⟨b, o, none⟩ ∧ Cells H L b l ∧ Seg l o new) :
    Src P H L k (.slice a m cap) m new := by
  refine ⟨hn, h1, fun w hS => ⟨rfl, ?_⟩⟩
  cases a with
  | none => have := hnil rfl; subst this; simp [Builtin.firstCells]
  | some ad =>
    simp only [Builtin.firstCells]
    by_cases h : new = []
    · subst h
      rw [← hn]
      simp [loadCells, loadCellsFrom]
    · obtain ⟨h2, h3, h4⟩ := hne (by simp) h
      cases h2
      rw [← hn]
      exact run_loadCells_seg hS h3 h4
theorem src_str {s : ByteArray} : Src P H L 1 (.string s) s.size (s.data.toList.map u8v) := by
  refine ⟨by simp; try rfl, oneCells_bytes _, fun w _ => ⟨rfl, ?_⟩⟩
  have : s.extract 0 s.size = s := by
    apply ByteArray.ext; simp [ByteArray.data_extract]; try rfl
  simp only [Builtin.firstCells, this, Sem.run_pure]
  congr 1
  apply Array.ext'
  simp [u8v]

/-- The slice v is owned: its blocks are C; it has n elements of k cells, cs. -/
def Ow (e k : Nat) (C : Chunks) (v : Value) (n : Nat) (cs : List Value) : Prop :=
  cs.length = n * k ∧ ((v = .slice none 0 0 ∧ n = 0 ∧ C = []) ∨
    ∃ b cap rest z, v = .slice (some ⟨b, 0, none⟩) n cap ∧ n ≤ cap ∧ rest.length = (cap - n) * k ∧ C = [(b, .cells (cs ++ rest).toArray e z)] ∧ (z = (0, 0) ∨ (cs ++ rest).length ≤ z.1))
theorem Ow.nil {e k : Nat} : Ow e k [] (.slice none 0 0) 0 [] := ⟨by simp, .inl ⟨rfl, rfl, rfl⟩⟩
theorem Ow.new {e k n : Nat} {cs : List Value} (h : cs.length = n * k) : Ow e k [(b, .cells cs.toArray e (0, 0))] (.slice (some ⟨b, 0, none⟩) n n) n cs :=
  ⟨h, .inr ⟨b, n, [], (0, 0), rfl, Nat.le_refl _, by simp, by simp, .inl rfl⟩⟩
theorem Ow.slice {e k n : Nat} {C : Chunks} {cs : List Value} (h : Ow e k C v n cs) : ∃ a cap, v = .slice a n cap ∧ n ≤ cap := by
  rcases h.2 with ⟨rfl, rfl, _⟩ | ⟨b, cap, rest, z, rfl, hn, _⟩
  · exact ⟨none, 0, rfl, Nat.le_refl _⟩
  · exact ⟨_, cap, rfl, hn⟩

theorem run_storeCells_z (g o : Nat) (t : TypeId) (z : Nat × Nat) : ∀ (vs : List Value) (i : Nat) (cur : Array Value) (w : World), w.heap[g]? = some (.cells cur t z) → o + i + vs.length ≤ cur.size →
    (z = (0, 0) ∨ o + i + vs.length ≤ z.1) → (∀ v ∈ vs, v.oneCell' = true) →
    (storeCells ⟨g, o, none⟩ vs i).run P w = .ok () (w.setRow g (cur.toList.take (o + i) ++ vs ++ cur.toList.drop (o + i + vs.length)).toArray)
  | [], i, cur, w, hg, _, _, _ => by
    simp only [storeCells, List.append_nil, List.length_nil, Nat.add_zero, List.take_append_drop, Array.toArray_toList]
    rw [setRow_self w g cur t z hg]
    rfl
  | v :: rest, i, cur, w, hg, hl, hz, h1 => by
    have hi : o + i < cur.size := by simp at hl; omega
    have hcell : w.cell? ⟨g, o + i, none⟩ = some cur[o + i] := by simp [World.cell?, hg, hi]
    have hfro : w.frozen? ⟨g, o + i, none⟩ = false := by
      obtain ⟨z1, z2⟩ := z
      rcases hz with hz | hz
      · cases hz; simp [World.frozen?, hg]
      · simp only [List.length_cons] at hz
        simp [World.frozen?, hg]; omega
    have hst : (store ((⟨g, o, none⟩ : Addr).add i) v).run P w = .ok () (w.setRow g (cur.setIfInBounds (o + i) v)) := by
      rw [addr_add, run_store P w _ v _ (h1 v (by simp)), hcell]
      simp [hfro, setCell_eq_setRow w g (o + i) cur t z v hg]
    have ih := run_storeCells_z g o t z rest (i + 1) (cur.setIfInBounds (o + i) v) (w.setRow g (cur.setIfInBounds (o + i) v)) (setRow_heap w g cur _ t _ hg) (by simp at hl ⊢; omega)
      (hz.imp id fun h => by simp at h; omega) (fun x hx => h1 x (by simp [hx]))
    simp only [storeCells, Sem.run_bind, hst, Result.andThen_ok, ih, setRow_setRow]
    congr 3
    have e := list_seg_step cur.toList (o + i) v rest (by simp at hl ⊢; omega)
    simpa [Array.toList_setIfInBounds, Nat.add_assoc] using e

theorem zeroCells_size (z : Array Value) (n : Nat) : (Builtin.zeroCells z n).size = n * z.size := by simp [Builtin.zeroCells]

structure AppT (P : Program) (t u e k bytes : Nat) (z : Value) : Prop where
  und : P.underlying t = some (.slice e)
  src : (∃ e', P.underlying u = some (.slice e')) ∨ P.underlying u = some .string
  info : (P.info? e).map (fun i => (i.zero, i.size, i.bytes)) = some (some z, k, bytes)
  zsize : z.cells.size = k
theorem AppT.parts {t u e k bytes : Nat} {z : Value} (h : AppT P t u e k bytes z) : ∃ i, P.info? e = some i ∧ i.zero = some z ∧ i.size = k ∧ i.bytes = bytes := by
  have h' := h.info
  cases hi : P.info? e with
  | none => rw [hi] at h'; simp at h'
  | some i =>
    rw [hi] at h'
    simp only [Option.map_some, Option.some.injEq, Prod.mk.injEq] at h'
    exact ⟨i, rfl, h'.1, h'.2.1, h'.2.2⟩

theorem run_app_fits {t u e k bytes : Nat} {z : Value} (A : AppT P t u e k bytes z) {ty : TypeId} {w w' : World} {base : Addr} {sLen sCap m : Nat} {x : Value} {new : List Value}
    (hx1 : (Builtin.lenOf x).run P w = .ok m w) (hx2 : (Builtin.firstCells k m x).run P w = .ok new.toArray w) (hfit : sLen + m ≤ sCap)
    (hst : (storeCells (base.add (sLen * k)) new).run P w = .ok () w') :
    (Builtin.append_ #[t, u] ty #[.slice (some base) sLen sCap, x]).run P w = .ok (.slice (some base) (sLen + m) sCap) w' := by
  obtain ⟨i, hi, hz, hsz, hby⟩ := A.parts
  rcases A.src with ⟨e', hu⟩ | hu <;>
  simp [Builtin.append_, run_underlying A.und, run_underlying hu, sizeOf, typeInfo, hi, hsz, hx1, hx2, hfit, hst]

theorem run_app_nil0 {t u e k bytes : Nat} {z : Value} (A : AppT P t u e k bytes z) {ty : TypeId} {w : World} {x : Value} {new : List Value}
    (hx1 : (Builtin.lenOf x).run P w = .ok 0 w) (hx2 : (Builtin.firstCells k 0 x).run P w = .ok new.toArray w) :
    (Builtin.append_ #[t, u] ty #[.slice none 0 0, x]).run P w = .ok (.slice none 0 0) w := by
  obtain ⟨i, hi, hz, hsz, hby⟩ := A.parts
  rcases A.src with ⟨e', hu⟩ | hu <;>
  simp [Builtin.append_, run_underlying A.und, run_underlying hu, sizeOf, typeInfo, hi, hsz, hx1, hx2]

theorem run_app_grow {t u e k bytes : Nat} {z : Value} (A : AppT P t u e k bytes z) {ty : TypeId} {w : World} {base : Option Addr} {sLen sCap m : Nat} {x : Value} {old new : List Value}
    (hx1 : (Builtin.lenOf x).run P w = .ok m w) (hx2 : (Builtin.firstCells k m x).run P w.drew = .ok new.toArray w.drew)
    (ho : (Builtin.firstCells k sLen (.slice base sLen sCap)).run P w.drew = .ok old.toArray w.drew) (hg : sCap < sLen + m) (hmax : sLen + m ≤ 4611686018427387904)
    (hby : (sLen + m) * bytes ≤ 140737488355328) :
    ∃ cap rest, sLen + m ≤ cap ∧ rest.length = (cap - (sLen + m)) * k ∧ (Builtin.append_ #[t, u] ty #[.slice base sLen sCap, x]).run P w =
      .ok (.slice (some ⟨w.heap.size, 0, none⟩) (sLen + m) cap) (w.drew.alloc (.cells (old ++ new ++ rest).toArray e (0, 0))) := by
  obtain ⟨i, hi, hz, hsz, hb⟩ := A.parts
  have hn : ¬ (sLen + m ≤ sCap) := by omega
  have h63' : ¬ (9223372036854775807 < ((sLen : Int) + (m : Int))) := by omega
  have hfit := growslice_fits hg hby
  have h48' : ¬ (281474976710656 < Builtin.nextslicecap (sLen + m) sCap * i.bytes) := by rw [hb]; omega
  have hcap : sLen + m ≤ grownCap w (sLen + m) sCap e := by simp only [grownCap, Question.cut]; omega
  refine ⟨grownCap w (sLen + m) sCap e, (Builtin.zeroCells z.cells (grownCap w (sLen + m) sCap e - (sLen + m))).toList, hcap, ?_, ?_⟩
  · rw [Array.length_toList, zeroCells_size, A.zsize]
  · have e1 : (old ++ new ++ (Builtin.zeroCells z.cells (grownCap w (sLen + m) sCap e - (sLen + m))).toList).toArray = old.toArray ++ new.toArray ++ Builtin.zeroCells z.cells (grownCap w (sLen + m) sCap e - (sLen + m)) := by
      apply Array.ext'; simp
    rw [e1]
    rcases A.src with ⟨e', hu⟩ | hu <;>
    simp [Builtin.append_, run_underlying A.und, run_underlying hu, sizeOf, typeInfo, zeroValue, hi, hz, hsz, hx1, hn, h63', h48', Question.forced, hx2, ho, newRow, grownCap]
    all_goals
      congr 2
      apply Array.ext'
      simp

/-- append to an owned slice. -/
theorem nx_append {t' u' e k bytes : Nat} {z : Value} (A : AppT P t' u' e k bytes z) {n m : Nat} {C : Chunks} {s w0 : Value} {cs new : List Value} (hx : ev E x = some s) (hy : ev E y = some w0) (hO : Ow e k C s n cs) (hC : Pick C L L')
    (hS : Src P H L k w0 m new) (hmax : n + m ≤ 4611686018427387904) (hby : (n + m) * bytes ≤ 140737488355328) :
    Nx P E H L (.call ⟨.builtin .append, #[x, y], #[t', u']⟩) t (fun v H' L'' => ∃ C', Ow e k C' v (n + m) (cs ++ new) ∧ (m = 0 → v = s ∧ C' = C) ∧ H = H' ∧ L'' = C' ++ L') := by
  obtain ⟨hlc, hO⟩ := hO
  obtain ⟨hln, hone, hsrc⟩ := hS
  refine Nx.of_run fun a w N hA hS => ?_
  have e1 : ∀ r : Result Value, (Builtin.append_ #[t', u'] t #[s, w0]).run P w = r →
      (execOp a.eval ⟨none, .call ⟨.builtin .append, #[x, y], #[t', u']⟩, t, "", #[], none⟩).run P w = r.andThen fun v w' => .ok (.value v) w' := by
    intro r hr
    simp [execOp, resolve, hA.ev hx, hA.ev hy, invoke, Go.builtin, hr]
  obtain ⟨hx1, hx2⟩ := hsrc w hS
  rcases hO with ⟨rfl, rfl, rfl⟩ | ⟨b, cap, rest, z', rfl, hncap, hrest, rfl, hz'⟩
  · -- nil
    have hcs : cs = [] := List.length_eq_zero_iff.1 (by simpa using hlc)
    subst hcs
    by_cases hm : m = 0
    · subst hm
      have hnew : new = [] := List.length_eq_zero_iff.1 (by simpa using hln)
      subst hnew
      exact ⟨.value (.slice none 0 0), w, H, L', _, by rw [e1 _ (run_app_nil0 A hx1 hx2)]; rfl, .inl rfl, Gh.le_refl _, hS.perm (by simpa using hC.perm), [], ⟨by simp, .inl ⟨rfl, rfl, rfl⟩⟩, fun _ => ⟨rfl, rfl⟩, rfl, rfl⟩
    · obtain ⟨_, hx2d⟩ := hsrc _ hS.drew
      obtain ⟨cap, rest, hc1, hc2, hrun⟩ := run_app_grow A (ty := t) (base := none) (sLen := 0) (sCap := 0) (old := []) hx1 hx2d (by simp [Builtin.firstCells]) (by omega) (by omega) (by simpa using hby)
      refine ⟨.value _, _, H, _, _, by rw [e1 _ hrun]; rfl, .inl rfl, Gh.le_refl _, ((hS.drew.perm hC.perm).new _), _, ⟨?_, .inr ⟨w.heap.size, cap, rest, (0, 0), rfl, hc1, hc2, rfl, .inl rfl⟩⟩, fun h => absurd h hm, rfl, rfl⟩
      simpa using hln
  · have hSp := hS.perm hC.perm
    have hb := (hSp.own _ List.mem_cons_self).1
    simp only at hb
    by_cases hfit : n + m ≤ cap
    · -- in place
      have hmk : m * k ≤ (cap - n) * k := Nat.mul_le_mul_right _ (by omega)
      have hst := run_storeCells_z (P := P) b (0 + n * k) e z' new 0 _ w hb (by simp; omega) (hz'.imp id fun h => by simp at h; omega) hone
      rw [← addr_add] at hst
      have hC' : (((cs ++ rest).toArray.toList.take (0 + n * k + 0) ++ new ++ (cs ++ rest).toArray.toList.drop (0 + n * k + 0 + new.length)).toArray : Array Value) = ((cs ++ new) ++ rest.drop new.length).toArray := by
        congr 1
        simp [← hlc, List.take_append, List.drop_append]
      rw [hC'] at hst
      have hrun := run_app_fits A (ty := t) hx1 hx2 hfit hst
      have hput := hSp.put (k := 0) rfl (.cells ((cs ++ new) ++ rest.drop new.length).toArray e z') (w' := w.setRow b ((cs ++ new) ++ rest.drop new.length).toArray) rfl rfl (Nat.le_refl _) rfl
        (setRow_heap w b _ _ e z' hb) (fun i hi => setRow_get hi)
      refine ⟨.value _, _, H, _, _, by rw [e1 _ hrun]; rfl, .inl rfl, Gh.le_refl _, hput, [(b, .cells ((cs ++ new) ++ rest.drop new.length).toArray e z')],
        ⟨by simp [hlc, hln, Nat.add_mul], .inr ⟨b, cap, rest.drop new.length, z', rfl, hfit, ?_, rfl, hz'.imp id fun h => by simp at h ⊢; omega⟩⟩, fun hm => ?_, rfl, rfl⟩
      · rw [List.length_drop, hrest, hln, ← Nat.sub_mul]; congr 1; omega
      · subst hm
        have hnew : new = [] := List.length_eq_zero_iff.1 (by simpa using hln)
        subst hnew
        simp
    · obtain ⟨_, hx2d⟩ := hsrc _ hS.drew
      have ho : (Builtin.firstCells k n (.slice (some ⟨b, 0, none⟩) n cap)).run P w.drew = .ok cs.toArray w.drew := by
        simp only [Builtin.firstCells]
        rw [← hlc]
        exact run_loadCells_seg (H := H) (L := [(b, .cells (cs ++ rest).toArray e z')] ++ L') hSp.drew ⟨e, z', .inr List.mem_cons_self⟩ Seg.head
      obtain ⟨cap', rest', hc1, hc2, hrun⟩ := run_app_grow A (ty := t) hx1 hx2d ho (by omega) hmax hby
      exact ⟨.value _, _, H, _, _, by rw [e1 _ hrun]; rfl, .inl rfl, Gh.le_refl _, ((hSp.drew.new _).sub (Gh.le_refl _) ((List.sublist_cons_self _ _).cons_cons _)), _,
        ⟨by simp [hlc, hln, Nat.add_mul], .inr ⟨w.heap.size, cap', rest', (0, 0), rfl, hc1, hc2, rfl, .inl rfl⟩⟩, fun hm => by omega, rfl, rfl⟩

theorem ny_append {t' u' e k bytes : Nat} {z : Value} (A : AppT P t' u' e k bytes z) {n m : Nat} {C : Chunks} {s w0 : Value} {cs new : List Value} (hx : ev E x = some s) (hy : ev E y = some w0) (hO : Ow e k C s n cs) (hC : Pick C L L')
    (hS : Src P H L k w0 m new) (hmax : n + m ≤ 4611686018427387904) (hby : (n + m) * bytes ≤ 140737488355328) :
    Ny P E H L (.call ⟨.builtin .append, #[x, y], #[t', u']⟩) t (fun v H' L'' => ∃ C', Ow e k C' v (n + m) (cs ++ new) ∧ (m = 0 → v = s ∧ C' = C) ∧ H = H' ∧ L'' = C' ++ L') := by
  obtain ⟨hlc, hO⟩ := hO
  obtain ⟨hln, hone, hsrc⟩ := hS
  refine fun a w N hA hS => ?_
  have e1 : ∀ r : Result Value, (Builtin.append_ #[t', u'] t #[s, w0]).run P w = r →
      (execOp a.eval ⟨none, .call ⟨.builtin .append, #[x, y], #[t', u']⟩, t, "", #[], none⟩).run P w = r.andThen fun v w' => .ok (.value v) w' := by
    intro r hr
    simp [execOp, resolve, hA.ev hx, hA.ev hy, invoke, Go.builtin, hr]
  obtain ⟨hx1, hx2⟩ := hsrc w hS
  rcases hO with ⟨rfl, rfl, rfl⟩ | ⟨b, cap, rest, z', rfl, hncap, hrest, rfl, hz'⟩
  · -- nil
    have hcs : cs = [] := List.length_eq_zero_iff.1 (by simpa using hlc)
    subst hcs
    by_cases hm : m = 0
    · subst hm
      have hnew : new = [] := List.length_eq_zero_iff.1 (by simpa using hln)
      subst hnew
      exact ⟨.value (.slice none 0 0), w, H, L', _, by rw [e1 _ (run_app_nil0 A hx1 hx2)]; rfl, .inl rfl, Gh.le_refl _, hS.perm (by simpa using hC.perm), [], ⟨by simp, .inl ⟨rfl, rfl, rfl⟩⟩, fun _ => ⟨rfl, rfl⟩, rfl, rfl⟩
    · obtain ⟨_, hx2d⟩ := hsrc _ hS.drew
      obtain ⟨cap, rest, hc1, hc2, hrun⟩ := run_app_grow A (ty := t) (base := none) (sLen := 0) (sCap := 0) (old := []) hx1 hx2d (by simp [Builtin.firstCells]) (by omega) (by omega) (by simpa using hby)
      refine ⟨.value _, _, H, _, _, by rw [e1 _ hrun]; rfl, .inl rfl, Gh.le_refl _, ((hS.drew.perm hC.perm).new _), _, ⟨?_, .inr ⟨w.heap.size, cap, rest, (0, 0), rfl, hc1, hc2, rfl, .inl rfl⟩⟩, fun h => absurd h hm, rfl, rfl⟩
      simpa using hln
  · have hSp := hS.perm hC.perm
    have hb := (hSp.own _ List.mem_cons_self).1
    simp only at hb
    by_cases hfit : n + m ≤ cap
    · -- in place
      have hmk : m * k ≤ (cap - n) * k := Nat.mul_le_mul_right _ (by omega)
      have hst := run_storeCells_z (P := P) b (0 + n * k) e z' new 0 _ w hb (by simp; omega) (hz'.imp id fun h => by simp at h; omega) hone
      rw [← addr_add] at hst
      have hC' : (((cs ++ rest).toArray.toList.take (0 + n * k + 0) ++ new ++ (cs ++ rest).toArray.toList.drop (0 + n * k + 0 + new.length)).toArray : Array Value) = ((cs ++ new) ++ rest.drop new.length).toArray := by
        congr 1
        simp [← hlc, List.take_append, List.drop_append]
      rw [hC'] at hst
      have hrun := run_app_fits A (ty := t) hx1 hx2 hfit hst
      have hput := hSp.put (k := 0) rfl (.cells ((cs ++ new) ++ rest.drop new.length).toArray e z') (w' := w.setRow b ((cs ++ new) ++ rest.drop new.length).toArray) rfl rfl (Nat.le_refl _) rfl
        (setRow_heap w b _ _ e z' hb) (fun i hi => setRow_get hi)
      refine ⟨.value _, _, H, _, _, by rw [e1 _ hrun]; rfl, .inl rfl, Gh.le_refl _, hput, [(b, .cells ((cs ++ new) ++ rest.drop new.length).toArray e z')],
        ⟨by simp [hlc, hln, Nat.add_mul], .inr ⟨b, cap, rest.drop new.length, z', rfl, hfit, ?_, rfl, hz'.imp id fun h => by simp at h ⊢; omega⟩⟩, fun hm => ?_, rfl, rfl⟩
      · rw [List.length_drop, hrest, hln, ← Nat.sub_mul]; congr 1; omega
      · subst hm
        have hnew : new = [] := List.length_eq_zero_iff.1 (by simpa using hln)
        subst hnew
        simp
    · obtain ⟨_, hx2d⟩ := hsrc _ hS.drew
      have ho : (Builtin.firstCells k n (.slice (some ⟨b, 0, none⟩) n cap)).run P w.drew = .ok cs.toArray w.drew := by
        simp only [Builtin.firstCells]
        rw [← hlc]
        exact run_loadCells_seg (H := H) (L := [(b, .cells (cs ++ rest).toArray e z')] ++ L') hSp.drew ⟨e, z', .inr List.mem_cons_self⟩ Seg.head
      obtain ⟨cap', rest', hc1, hc2, hrun⟩ := run_app_grow A (ty := t) hx1 hx2d ho (by omega) hmax hby
      exact ⟨.value _, _, H, _, _, by rw [e1 _ hrun]; rfl, .inl rfl, Gh.le_refl _, ((hSp.drew.new _).sub (Gh.le_refl _) ((List.sublist_cons_self _ _).cons_cons _)), _,
        ⟨by simp [hlc, hln, Nat.add_mul], .inr ⟨w.heap.size, cap', rest', (0, 0), rfl, hc1, hc2, rfl, .inl rfl⟩⟩, fun hm => by omega, rfl, rfl⟩

/-- append to what is full: a new row. -/
theorem nx_append_full {t' u' e k bytes : Nat} {z : Value} (A : AppT P t' u' e k bytes z) {n m cap : Nat} {s : Option Addr} {w0 : Value} {cs new : List Value} (hx : ev E x = some (.slice s n cap)) (hy : ev E y = some w0)
    (hO : Src P H L k (.slice s n cap) n cs) (hS : Src P H L k w0 m new) (hg : cap < n + m) (hmax : n + m ≤ 4611686018427387904) (hby : (n + m) * bytes ≤ 140737488355328) :
    Nx P E H L (.call ⟨.builtin .append, #[x, y], #[t', u']⟩) t (fun v H' L'' => ∃ C', Ow e k C' v (n + m) (cs ++ new) ∧ H = H' ∧ L'' = C' ++ L) := by
  obtain ⟨hlc, _, hold⟩ := hO
  obtain ⟨hln, hone, hsrc⟩ := hS
  refine Nx.of_run fun a w N hA hS => ?_
  have e1 : ∀ r : Result Value, (Builtin.append_ #[t', u'] t #[.slice s n cap, w0]).run P w = r →
      (execOp a.eval ⟨none, .call ⟨.builtin .append, #[x, y], #[t', u']⟩, t, "", #[], none⟩).run P w = r.andThen fun v w' => .ok (.value v) w' := by
    intro r hr
    simp [execOp, resolve, hA.ev hx, hA.ev hy, invoke, Go.builtin, hr]
  obtain ⟨hx1, _⟩ := hsrc w hS
  obtain ⟨_, hx2d⟩ := hsrc _ hS.drew
  obtain ⟨_, hod⟩ := hold _ hS.drew
  obtain ⟨cap', rest, hc1, hc2, hrun⟩ := run_app_grow A (ty := t) hx1 hx2d hod hg hmax hby
  exact ⟨.value _, _, H, _, _, by rw [e1 _ hrun]; rfl, .inl rfl, Gh.le_refl _, (hS.drew.new _), _, ⟨by simp [hlc, hln, Nat.add_mul], .inr ⟨w.heap.size, cap', rest, (0, 0), rfl, hc1, hc2, rfl, .inl rfl⟩⟩, rfl, rfl⟩

/-! ## The bytes of a string -/
theorem nx_convBytes {e : TypeId} {l : List UInt8} (hs : P.underlying T = some .string) (hd : P.underlying T' = some (.slice e)) (he : P.underlying e = some (.int .u8)) (hx : ev E x = some (.string ⟨l.toArray⟩)) :
    Nx P E H L (.convert T T' x) t (fun v H' L'' => ∃ C, Ow e 1 C v l.length (l.map u8v) ∧ v ≠ .slice none 0 0 ∧ H = H' ∧ L'' = C ++ L) := by
  refine Nx.of_run fun a w N hA hS => ?_
  let cap := (Question.appendCap l.length 0 e).cut (w.tape w.drawn (.appendCap l.length 0 e))
  have hcap : l.length ≤ cap := by simp only [cap, Question.cut]; omega
  let cells : List Value := l.map u8v ++ List.replicate (cap - l.length) (.int .u8 0)
  have hn := (hS.drew.new (.cells cells.toArray e (0, 0)))
  let w1 : World := { w with drawn := w.drawn + 1, heap := w.heap.push (.cells cells.toArray e (0, 0)) }
  let w2 : World := w1.freeze ⟨w.heap.size, cells.length, none⟩ 1
  have hw2 : w2 = { w1 with heap := w1.heap.modify w.heap.size fun
      | .cells c elem (lo, hi) => .cells c elem (if lo == hi then (cells.length, cells.length + 1) else (min lo cells.length, max hi (cells.length + 1)))
      | o => o } := rfl
  have hget : w2.heap[w.heap.size]? = some (.cells cells.toArray e (cells.length, cells.length + 1)) := by
    rw [hw2]
    show (w1.heap.modify w.heap.size _)[w.heap.size]? = _
    rw [Array.getElem?_modify, if_pos rfl]
    simp [w1]
  have hne : ∀ i, i ≠ w.heap.size → w2.heap[i]? = w1.heap[i]? := fun i hi => by
    rw [hw2]
    simp only [Array.getElem?_modify]
    rw [if_neg (fun e => hi e.symm)]
  have hput := hn.put (k := 0) rfl (.cells cells.toArray e (cells.length, cells.length + 1)) (w' := w2) rfl rfl (Nat.le_refl _) rfl hget hne
  refine ⟨.value (.slice (some ⟨w.heap.size, 0, none⟩) l.length cap), w2, H, _, _, ?_, .inl rfl, Gh.le_refl _, hput, [(w.heap.size, .cells cells.toArray e (cells.length, cells.length + 1))],
    ⟨by simp, .inr ⟨w.heap.size, cap, List.replicate (cap - l.length) (.int .u8 0), _, rfl, hcap, by simp, rfl, .inr (Nat.le_refl _)⟩⟩, by simp, rfl, rfl⟩
  have e2 : (execOp a.eval ⟨none, .convert T T' x, t, "", #[], none⟩) = (do pure (.value (← convert T T' (a.eval x)))) := rfl
  rw [e2, hA.ev hx, Sem.run_bind]
  have hrun : (convert T T' (.string ⟨l.toArray⟩)).run P w = .ok (.slice (some ⟨w.heap.size, 0, none⟩) l.length cap) w2 := by
    have hcells : (Array.map (fun b : UInt8 => Value.int .u8 b.toNat) l.toArray ++ Array.replicate (cap - l.length) (.int .u8 0)) = cells.toArray := by
      simp [cells, u8v]
    simp only [convert, Sem.run_bind, run_underlying hs, run_underlying hd, run_underlying he, Result.andThen_ok, Conv.stringToBytes]
    have hsz : (ByteArray.mk l.toArray).size = l.length := rfl
    have h1 : (choose (.appendCap l.length 0 e)).run P w = .ok cap { w with drawn := w.drawn + 1 } := rfl
    have h2 : (newRow e cells.toArray).run P { w with drawn := w.drawn + 1 } = .ok ⟨w.heap.size, 0, none⟩ w1 := rfl
    have h3 : (markStringish ⟨w.heap.size, 0, none⟩).run P w1 = .ok () w2 := by
      have hsh : w1.shape? w.heap.size = some (e, cells.length) := by simp [World.shape?, w1]
      have : (shape w.heap.size).run P w1 = .ok (some (e, cells.length)) w1 := by
        show (Sem.pure (w1.shape? w.heap.size)).run P w1 = _
        rw [hsh]; rfl
      simp only [markStringish, Sem.run_bind, this, Result.andThen_ok]
      rfl
    simp only [hsz, h1, Result.andThen_ok]
    rw [hcells, h2]
    simp only [Result.andThen_ok, h3]
    rfl
  rw [hrun]
  rfl
theorem Ow.elem {e k n cap : Nat} {C : Chunks} {a : Option Addr} {cs : List Value} (h : Ow e k C (.slice a n cap) n cs) (hn : n ≠ 0) :
    ∃ b l, a = some ⟨b, 0, none⟩ ∧ (∀ (H : Gh) (L : Chunks), (∀ x ∈ C, x ∈ L) → Cells H L b l) ∧ Seg l 0 cs := by
  rcases h.2 with ⟨_, h0, _⟩ | ⟨b, cap', rest, z, hv, _, _, rfl, _⟩
  · exact absurd h0 hn
  · cases hv
    exact ⟨b, cs ++ rest, rfl, fun H L hL => ⟨e, z, .inr (hL _ List.mem_cons_self)⟩, Seg.head⟩
theorem Ow.notnil {e k n cap : Nat} {C : Chunks} {a : Option Addr} {cs : List Value} (h : Ow e k C (.slice a n cap) n cs) : a = none → n = 0 ∧ cap = 0 := by
  rintro rfl
  rcases h.2 with ⟨hv, h0, _⟩ | ⟨b, cap', rest, z, hv, _, _, rfl, _⟩
  · cases hv; exact ⟨rfl, rfl⟩
  · cases hv
theorem rd_convOw {e e' n : Nat} {C : Chunks} {l : List UInt8} (hs : P.underlying T = some (.slice e)) (hd : P.underlying T' = some .string) (he : P.underlying e = some (.int .u8)) (hx : ev E x = some v)
    (hO : Ow e' 1 C v n (l.map u8v)) (hC : ∀ x ∈ C, x ∈ L) : Rd P E H L (.convert T T' x) t (.string ⟨l.toArray⟩) := by
  obtain ⟨a, cap, rfl, _⟩ := hO.slice
  have hl : l.length = n := by have := hO.1; simpa using this
  by_cases hn : n = 0
  · refine rd_convStr hs hd he hx hl (b := 0) (o := 0) (l := []) (fun _ h => absurd hn h) fun ha => hn
  · obtain ⟨b, lb, rfl, hc, hsg⟩ := hO.elem hn
    exact rd_convStr hs hd he hx hl (fun _ _ => ⟨rfl, hc H L hC, hsg⟩) (fun h => by cases h)
theorem Ow.len {e k n : Nat} {C : Chunks} {cs : List Value} (h : Ow e k C v n cs) : cs.length = n * k := h.1
end
end Go.VK
