/- Characters in bytes, as plain lists: what the program's utf answers is what the document says. Conditions: none; no program is named here. -/
import Derived.Lib.RuneBytes
import Derived.Lib.DecodeNEq
import Derived.Lib.Small
import Derived.Shelf.Unicode.DecodeSlow
set_option linter.unusedSimpArgs false
set_option linter.unusedVariables false
namespace Go.Proofs.YtnogcpjfgnpbbaaDoor
open Go

/-- how many bytes a first byte asks for; 0: it is none -/
def usize (a : Nat) : Nat := if a < 128 then 1 else if 194 ≤ a ∧ a ≤ 223 then 2 else if 224 ≤ a ∧ a ≤ 239 then 3 else if 240 ≤ a ∧ a ≤ 244 then 4 else 0
/-- may a byte stand behind a first one? -/
def usec (a c : Nat) : Bool :=
  if a = 224 then decide (160 ≤ c ∧ c ≤ 191) else if a = 237 then decide (128 ≤ c ∧ c ≤ 159) else if a = 240 then decide (144 ≤ c ∧ c ≤ 191) else if a = 244 then decide (128 ≤ c ∧ c ≤ 143) else decide (128 ≤ c ∧ c ≤ 191)
/-- the bytes behind the first one: k more are asked for, i were read, c is what they come to -/
def ugo (a : Nat) : Nat → Nat → Nat → List UInt8 → Nat × Nat × Nat
  | 0, i, c, _ => (c, i, 0)
  | _ + 1, i, _, [] => (0, i, 7)
  | k + 1, i, c, y :: r =>
    if (i = 1 ∧ usec a y.toNat = false) ∨ (1 < i ∧ (y.toNat < 128 ∨ 191 < y.toNat)) then (0, i, 8) else ugo a k (i + 1) (64 * c + y.toNat - 128) r
/-- the character, how many bytes, the error -/
def uNext : List UInt8 → Nat × Nat × Nat
  | [] => (0, 0, 6)
  | x :: r =>
    if usize x.toNat = 0 then (0, 1, 8)
    else if usize x.toNat = 1 then (x.toNat, 1, 0)
    else ugo x.toNat (usize x.toNat - 1) 1 (if usize x.toNat = 3 then x.toNat % 16 else if usize x.toNat = 4 then x.toNat % 8 else x.toNat % 32) r

/-! ### what the library's functions answer -/
/-- utf8.FullRune -/
def ufull (l : List UInt8) : Bool :=
  match l with
  | [] => false
  | x :: r =>
    if Lib.firstT x.toNat % 8 ≤ l.length then true
    else match r with
      | [] => false
      | y :: q =>
        if y.toNat < Lib.accLo (Lib.firstT x.toNat / 16) ∨ Lib.accHi (Lib.firstT x.toNat / 16) < y.toNat then true
        else match q with
          | [] => false
          | z :: _ => decide (z.toNat < 128 ∨ 191 < z.toNat)
/-- utf.beginning -/
def ubeg (l : List UInt8) : Bool := decide (0 < l.length) && decide (l.length < 4) && !ufull l
/-- utf8.DecodeRune -/
def udec (l : List UInt8) : Nat × Nat := if l.length = 0 then (65533, 0) else Lib.decodeN l.length (l.getD 0 0).toNat (l.getD 1 0).toNat (l.getD 2 0).toNat (l.getD 3 0).toNat
/-- the loop of utf.Next: d rounds at most -/
def uloop (l : List UInt8) : Nat → Nat → Nat
  | 0, n => n
  | d + 1, n => if n < l.length ∧ ubeg (l.take (n + 1)) = true then uloop l d (n + 1) else n
def uNextM (l : List UInt8) : Nat × Nat × Nat :=
  if l.length = 0 then (0, 0, 6)
  else if (udec l).1 ≠ 65533 ∨ 1 < (udec l).2 then ((udec l).1, (udec l).2, 0)
  else if ubeg l = true then (0, l.length, 7)
  else (0, uloop l l.length 1, 8)
end Go.Proofs.YtnogcpjfgnpbbaaDoor
