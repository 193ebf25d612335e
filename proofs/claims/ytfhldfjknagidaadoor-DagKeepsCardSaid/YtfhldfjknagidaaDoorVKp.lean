/-
  The document's answers as plain functions: numbers and lists as bytes, digests, operations, sets of operations. No program, no memory.
-/
import Init.Data.UInt.Lemmas
set_option linter.unusedSimpArgs false
set_option linter.unusedVariables false
namespace Go.Tr

abbrev Bs := List UInt8

/-- A name: 32 bytes. -/
structure Nm where
  bytes : Bs
  len : bytes.length = 32
  deriving DecidableEq
theorem Nm.ext' {a b : Nm} (h : a.bytes = b.bytes) : a = b := by cases a; cases b; cases h; rfl
def Nm.zero : Nm := ⟨List.replicate 32 0, rfl⟩
instance : Inhabited Nm := ⟨Nm.zero⟩

/-! ## Bytes -/
def digits : Nat → Nat → Bs
  | 0, _ => []
  | k + 1, n => if n = 0 then [] else digits k (n / 256) ++ [UInt8.ofNat n]
def numB (n : Nat) : Bs := UInt8.ofNat (digits 9 n).length :: digits 9 n
def textB (s : Bs) : Bs := numB s.length ++ s
def listB (l : List Bs) : Bs := numB l.length ++ l.flatMap textB

/-! ## Digests -/
def rotr (x : UInt32) (k : Nat) : UInt32 := x >>> UInt32.ofNat k ||| x <<< UInt32.ofNat (32 - k)
def startH : List UInt32 := [0x6a09e667, 0xbb67ae85, 0x3c6ef372, 0xa54ff53a, 0x510e527f, 0x9b05688c, 0x1f83d9ab, 0x5be0cd19]
def roundK : List UInt32 := [
  0x428a2f98, 0x71374491, 0xb5c0fbcf, 0xe9b5dba5, 0x3956c25b, 0x59f111f1, 0x923f82a4, 0xab1c5ed5,
  0xd807aa98, 0x12835b01, 0x243185be, 0x550c7dc3, 0x72be5d74, 0x80deb1fe, 0x9bdc06a7, 0xc19bf174,
  0xe49b69c1, 0xefbe4786, 0x0fc19dc6, 0x240ca1cc, 0x2de92c6f, 0x4a7484aa, 0x5cb0a9dc, 0x76f988da,
  0x983e5152, 0xa831c66d, 0xb00327c8, 0xbf597fc7, 0xc6e00bf3, 0xd5a79147, 0x06ca6351, 0x14292967,
  0x27b70a85, 0x2e1b2138, 0x4d2c6dfc, 0x53380d13, 0x650a7354, 0x766a0abb, 0x81c2c92e, 0x92722c85,
  0xa2bfe8a1, 0xa81a664b, 0xc24b8b70, 0xc76c51a3, 0xd192e819, 0xd6990624, 0xf40e3585, 0x106aa070,
  0x19a4c116, 0x1e376c08, 0x2748774c, 0x34b0bcb5, 0x391c0cb3, 0x4ed8aa4a, 0x5b9cca4f, 0x682e6ff3,
  0x748f82ee, 0x78a5636f, 0x84c87814, 0x8cc70208, 0x90befffa, 0xa4506ceb, 0xbef9a3f7, 0xc67178f2]

def word (p : Bs) (i : Nat) : UInt32 :=
  (((p.getD (4 * i) 0).toUInt32 <<< 24 ||| (p.getD (4 * i + 1) 0).toUInt32 <<< 16) ||| (p.getD (4 * i + 2) 0).toUInt32 <<< 8) ||| (p.getD (4 * i + 3) 0).toUInt32
def nextW (w : List UInt32) (i : Nat) : UInt32 :=
  let x := w.getD (i - 15) 0
  let y := w.getD (i - 2) 0
  w.getD (i - 16) 0 + w.getD (i - 7) 0 + (rotr x 7 ^^^ rotr x 18 ^^^ x >>> 3) + (rotr y 17 ^^^ rotr y 19 ^^^ y >>> 10)
/-- The first k words of a block's 64. -/
def wordsTo (p : Bs) : Nat → List UInt32
  | 0 => []
  | k + 1 => wordsTo p k ++ [if k < 16 then word p k else nextW (wordsTo p k) k]
def stepH (s : List UInt32) (k w : UInt32) : List UInt32 :=
  let a := s.getD 0 0
  let e := s.getD 4 0
  let t := s.getD 7 0 + (rotr e 6 ^^^ rotr e 11 ^^^ rotr e 25) + (e &&& s.getD 5 0 ^^^ ~~~e &&& s.getD 6 0) + k + w
  let u := (rotr a 2 ^^^ rotr a 13 ^^^ rotr a 22) + (a &&& s.getD 1 0 ^^^ a &&& s.getD 2 0 ^^^ s.getD 1 0 &&& s.getD 2 0)
  [t + u, a, s.getD 1 0, s.getD 2 0, s.getD 3 0 + t, e, s.getD 5 0, s.getD 6 0]
def roundsTo (h w : List UInt32) : Nat → List UInt32
  | 0 => h
  | k + 1 => stepH (roundsTo h w k) (roundK.getD k 0) (w.getD k 0)
def mixH (h : List UInt32) (p : Bs) : List UInt32 := List.zipWith (· + ·) h (roundsTo h (wordsTo p 64) 64)
def blocksH : Nat → List UInt32 → Bs → List UInt32
  | 0, h, _ => h
  | k + 1, h, b => if b = [] then h else blocksH k (mixH h (b.take 64)) (b.drop 64)
def padTo : Nat → Bs → Bs
  | 0, b => b
  | k + 1, b => if b.length % 64 = 56 then b else padTo k (b ++ [0])
def lenB (n : Nat) : Bs := (List.range 8).map fun i => UInt8.ofNat (n * 8 % 2 ^ 64 / 2 ^ (8 * (7 - i)))
def padded (s : Bs) : Bs := padTo 64 (s ++ [128]) ++ lenB s.length
def outB (h : List UInt32) : Bs := h.flatMap fun x : UInt32 => [(x >>> 24).toUInt8, (x >>> 16).toUInt8, (x >>> 8).toUInt8, x.toUInt8]
def shaB (s : Bs) : Bs := outB (blocksH (padded s).length startH (padded s))

theorem stepH_length (s : List UInt32) (k w : UInt32) : (stepH s k w).length = 8 := rfl
theorem roundsTo_length (h w : List UInt32) (hh : h.length = 8) : ∀ k, (roundsTo h w k).length = 8
  | 0 => hh
  | _ + 1 => rfl
theorem mixH_length (h : List UInt32) (p : Bs) (hh : h.length = 8) : (mixH h p).length = 8 := by
  simp [mixH, roundsTo_length h _ hh, hh]
theorem blocksH_length : ∀ (k : Nat) (h : List UInt32) (b : Bs), h.length = 8 → (blocksH k h b).length = 8
  | 0, h, _, hh => hh
  | k + 1, h, b, hh => by
    unfold blocksH
    split
    · exact hh
    · exact blocksH_length k _ _ (mixH_length h _ hh)
theorem outB_length (h : List UInt32) : (outB h).length = 4 * h.length := by
  induction h with
  | nil => rfl
  | cons x r ih => simp [outB] at ih ⊢; omega
theorem shaB_length (s : Bs) : (shaB s).length = 32 := by
  rw [shaB, outB_length, blocksH_length _ _ _ rfl]
def sha (s : Bs) : Nm := ⟨shaB s, shaB_length s⟩
def sum (purpose : Bs) (parts : List Bs) : Nm := sha (listB (purpose :: parts))

/-! ## Operations -/
structure Draft where
  kind : Int
  key : Bs
  value : Bs
  ref : Nm
  deriving DecidableEq
structure POp where
  draft : Draft
  author : Int
  depth : Int
  preds : List Nm
  deriving DecidableEq

/-- Byte by byte: -1, 0, 1. -/
def cmpB : Bs → Bs → Int
  | [], [] => 0
  | [], _ :: _ => -1
  | _ :: _, [] => 1
  | a :: x, b :: y => if a < b then -1 else if b < a then 1 else cmpB x y
def cmp (a b : Nm) : Int := cmpB a.bytes b.bytes
def ltN (a b : Nm) : Bool := cmp a b < 0

def goodDraft (d : Draft) : Bool :=
  (1 ≤ d.kind && d.kind ≤ 5) && (1 ≤ d.key.length && d.key.length ≤ 16 && d.value.length ≤ 64) &&
  (if d.kind ≤ 3 then d.ref == Nm.zero else d.kind == 4 || (!(d.ref == Nm.zero) && d.value.length == 0))
def risingB : List Nm → Bool
  | [] => true
  | [_] => true
  | a :: b :: r => ltN a b && risingB (b :: r)
def good (o : POp) : Bool :=
  goodDraft o.draft && (0 ≤ o.author && o.author ≤ 4) && (if o.preds.length = 0 then o.depth == 1 else 2 ≤ o.depth) && o.preds.length ≤ 32 && risingB o.preds

def draftB (d : Draft) : Bs := listB [numB d.kind.toNat, d.key, d.value, d.ref.bytes]
def opB (o : POp) : Bs := listB [numB o.author.toNat, numB o.depth.toNat, o.preds.flatMap (·.bytes), draftB o.draft]
def opWord : Bs := [111, 112]
def nameOf (o : POp) : Nm := sum opWord [opB o]

/-! ## Sets of operations -/
structure DSet where
  ops : List (Nm × POp)
  wait : List (Nm × POp)

def DSet.empty : DSet := ⟨[], []⟩
def has (l : List (Nm × POp)) (n : Nm) : Bool := l.any fun p => p.1 == n
def get (l : List (Nm × POp)) (n : Nm) : Option POp := (l.find? fun p => p.1 == n).map (·.2)
def whole (s : DSet) (o : POp) : Bool := o.preds.all fun p => has s.ops p
def wrap (n : Int) : Int := (n + 9223372036854775808) % 18446744073709551616 - 9223372036854775808
def deepest (s : DSet) (ps : List Nm) : Int := ps.foldl (fun n p => max n ((get s.ops p).elim 0 (·.depth))) 0
def depthOf (s : DSet) (ps : List Nm) : Int := wrap (deepest s ps + 1)
def ins (out : List Nm) (n : Nm) : List Nm := out.takeWhile (fun x => ltN x n) ++ n :: out.dropWhile (fun x => ltN x n)
def rising (l : List Nm) : List Nm := l.foldl ins []
def names (s : DSet) : List Nm := rising (s.ops.map (·.1))
def waits (s : DSet) : List Nm := rising (s.wait.map (·.1))
def behind (s : DSet) (n : Nm) : Bool := s.ops.any fun q => q.2.preds.any fun p => p == n
def heads (s : DSet) : List Nm := rising ((s.ops.map (·.1)).filter fun n => !behind s n)

/-- The place of the waiting one that comes next. -/
def bestOf (s : DSet) : List (Nm × POp) → Nat → Option (Nat × Nm) → Option (Nat × Nm)
  | [], _, b => b
  | (n, o) :: r, i, b => bestOf s r (i + 1) (if whole s o && (match b with | none => true | some (_, m) => cmp n m < 0) then some (i, n) else b)
def settle : Nat → DSet → List Nm → DSet × List Nm
  | 0, s, out => (s, out)
  | k + 1, s, out =>
    match bestOf s s.wait 0 none with
    | none => (s, out)
    | some (i, n) =>
      match s.wait[i]? with
      | none => (s, out)
      | some (_, o) =>
        let s' : DSet := ⟨s.ops, s.wait.eraseIdx i⟩
        if o.depth = depthOf s' o.preds then settle k ⟨s'.ops ++ [(n, o)], s'.wait⟩ (out ++ [n]) else settle k s' out
def take (s : DSet) (o : POp) : DSet × List Nm × Int :=
  if !good o then (s, [], 1)
  else if has s.ops (nameOf o) || has s.wait (nameOf o) then (s, [], 9)
  else if !whole s o then (⟨s.ops, s.wait ++ [(nameOf o, o)]⟩, [], 0)
  else if o.depth ≠ depthOf s o.preds then (s, [], 10)
  else
    let r := settle (s.wait.length + 1) ⟨s.ops ++ [(nameOf o, o)], s.wait⟩ [nameOf o]
    (r.1, r.2, 0)

def zeroOp : POp := ⟨⟨0, [], [], Nm.zero⟩, 0, 0, []⟩
def next (s : DSet) (author : Int) (d : Draft) : POp × Int :=
  if !goodDraft d || author < 0 || 4 < author then (zeroOp, 1)
  else if 32 < (heads s).length then (zeroOp, 3)
  else (⟨d, author, depthOf s (heads s), heads s⟩, 0)

structure Make where
  kind : Int
  author : Int
  draft : Draft
  at_ : Int
  other : Int
  deep : Int
  op : POp

/-- An int as an unsigned number of 64 bits, and what is over. -/
def pickAt (i : Int) (n : Nat) : Nat := (i % 18446744073709551616).toNat % n
def makeOp (all : DSet) (out : List POp) (m : Make) : Option POp :=
  if m.kind = 0 then (if (next all m.author m.draft).2 = 0 then some (next all m.author m.draft).1 else none)
  else if m.kind = 1 ∧ 0 < out.length then
    let a := out.getD (pickAt m.at_ out.length) zeroOp
    let b := out.getD (pickAt m.other out.length) zeroOp
    let ps := if a = b then rising [nameOf a] else rising [nameOf a, nameOf b]
    some ⟨m.draft, m.author, wrap (wrap (1 + max a.depth b.depth) + m.deep.tmod 3), ps⟩
  else some m.op
def madeGo : Nat → List Make → DSet → List POp → List POp
  | 0, _, _, out => out
  | _, [], _, out => out
  | k + 1, m :: r, all, out =>
    match makeOp all out m with
    | none => madeGo k r all out
    | some o =>
      if 70 < o.preds.length ∨ 100 < o.draft.key.length ∨ 100 < o.draft.value.length then madeGo k r all out
      else madeGo k r (take all o).1 (out ++ [o])
def made (makes : List Make) : List POp := madeGo 30 makes DSet.empty []

end Go.Tr
