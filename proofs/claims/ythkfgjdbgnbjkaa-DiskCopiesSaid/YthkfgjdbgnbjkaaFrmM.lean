/- Frames in plain Lean: what is printed, what is parsed. -/
import Derived.Test.YthkfgjdbgnbjkaaNumR
namespace Go.Proofs.Ythkfgjdbgnbjkaa
open Go.RowKit
set_option linter.unusedSimpArgs false
set_option linter.unusedVariables false

def kindOk (n : Int) : Bool := decide (1 ≤ n) && decide (n ≤ 11)
def procOk (n : Int) : Bool := decide (0 ≤ n) && decide (n < 64)
/-- an int as a byte. -/
def byteOf (n : Int) : UInt8 := UInt8.ofNat (n % 256).toNat
def headL (k f t : Int) (n : Nat) : List UInt8 := [197, 1, byteOf k, byteOf f, byteOf t] ++ NumM.be 2 n
/-- what is printed: the bytes. -/
def frameB (k f t : Int) (b : ByteArray) : ByteArray := sealB (⟨(headL k f t b.size).toArray⟩ ++ b)
/-- what is printed: the error; 0: none. -/
def printE (k f t : Int) (b : ByteArray) : Int :=
  if kindOk k = false then 10 else if (procOk f && procOk t) = false then 1 else if 32768 < b.size then 3 else 0
def printS (k f t : Int) (b : ByteArray) : ByteArray := if printE k f t b = 0 then frameB k f t b else ⟨#[]⟩

/-- a frame that is parsed, or an error. -/
structure FR where
  k : Int
  f : Int
  t : Int
  b : ByteArray
  e : Int
def FR.bad (e : Int) : FR := ⟨0, 0, 0, ⟨#[]⟩, e⟩
/-- the byte at a place. -/
def byAt (t : ByteArray) (i : Nat) : Nat := (t.data.toList.getD i 0).toNat
/-- what comes of the opened bytes: b0 .. b4: the first five; n: the length that they say; m: the body's. -/
def parseC (b0 b1 b2 b3 b4 n m : Nat) (body : ByteArray) : FR :=
  if b0 ≠ 197 then .bad 4 else if b1 ≠ 1 then .bad 9 else if kindOk b2 = false then .bad 10 else
  if (procOk b3 && procOk b4) = false then .bad 1 else
  if 32768 < m ∨ m ≠ n then .bad 3 else ⟨b2, b3, b4, body, 0⟩
def parseT (t : ByteArray) : FR := parseC (byAt t 0) (byAt t 1) (byAt t 2) (byAt t 3) (byAt t 4) (NumM.val ((t.data.toList.drop 5).take 2)) (t.size - 7) (t.extract 7 t.size)
def parseF (s : ByteArray) : FR := if s.size < 11 then .bad 2 else if openOk s = false then .bad 8 else parseT (openB s)

theorem val_one (l : List UInt8) (p : Nat) (h : p < l.length) : NumM.val ((l.drop p).take 1) = (l.getD p 0).toNat := by
  have h1 := get_step l p 0 (by omega)
  rw [List.take_zero] at h1
  simpa [NumM.val] using h1
theorem openB_size (s : ByteArray) (h : openOk s = true) : (openB s).size + 4 = s.size := by
  unfold openB
  rw [if_pos h, ByteArray.size_extract]
  unfold openOk at h
  rw [Bool.and_eq_true, decide_eq_true_iff] at h
  omega
end Go.Proofs.Ythkfgjdbgnbjkaa
