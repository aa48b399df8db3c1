/- What the program's utf.Next answers is what the document says, at every list. Conditions: none. -/
import Derived.Test.YtnogcpjfgnpbbaaDoorPUtf
set_option linter.unusedSimpArgs false
set_option linter.unusedVariables false
namespace Go.Proofs.YtnogcpjfgnpbbaaDoor
open Go

theorem b_lt (x : UInt8) : x.toNat < 256 := x.toNat_lt

set_option maxRecDepth 10000
theorem ufull1 (x : UInt8) : ufull [x] = decide (Lib.firstT x.toNat % 8 ≤ 1) := by
  simp [ufull]
theorem ufull2 (x y : UInt8) : ufull [x, y] = decide (Lib.firstT x.toNat % 8 ≤ 2 ∨ y.toNat < Lib.accLo (Lib.firstT x.toNat / 16) ∨ Lib.accHi (Lib.firstT x.toNat / 16) < y.toNat) := by
  simp only [ufull, List.length_cons, List.length_nil]
  split
  · rename_i h; simp; left; omega
  · rename_i h; split
    · rename_i h2; simp only [h2, or_true, decide_true]
    · rename_i h2; simp only [h2, or_false]; symm; simp; omega
theorem ufull3 (x y z : UInt8) : ufull [x, y, z] = decide (Lib.firstT x.toNat % 8 ≤ 3 ∨ (y.toNat < Lib.accLo (Lib.firstT x.toNat / 16) ∨ Lib.accHi (Lib.firstT x.toNat / 16) < y.toNat) ∨ z.toNat < 128 ∨ 191 < z.toNat) := by
  simp only [ufull, List.length_cons, List.length_nil]
  split
  · rename_i h; simp; left; omega
  · rename_i h; split
    · rename_i h2; simp only [h2, true_or, or_true, decide_true]
    · rename_i h2; simp only [h2, false_or]; congr 1; simp; omega
theorem ubeg1 (x : UInt8) : ubeg [x] = !ufull [x] := by simp [ubeg]
theorem ubeg2 (x y : UInt8) : ubeg [x, y] = !ufull [x, y] := by simp [ubeg]
theorem ubeg3 (x y z : UInt8) : ubeg [x, y, z] = !ufull [x, y, z] := by simp [ubeg]
theorem ubeg4 (l : List UInt8) (h : 4 ≤ l.length) : ubeg l = false := by simp [ubeg]; omega


section
variable (n b0 b1 b2 b3 sz lo hi : Nat)
theorem slow_short (h : n < sz) : Lib.slowN n b0 b1 b2 b3 sz lo hi = (65533, 1) := by simp [Lib.slowN, h]
theorem slow_bad2 (h : ¬ (lo ≤ b1 ∧ b1 ≤ hi)) : Lib.slowN n b0 b1 b2 b3 sz lo hi = (65533, 1) := by
  have : b1 < lo ∨ hi < b1 := by omega
  simp [Lib.slowN, this]
theorem slow_2 (h : lo ≤ b1 ∧ b1 ≤ hi) (hn : 2 ≤ n) : Lib.slowN n b0 b1 b2 b3 2 lo hi = (b0 % 32 * 64 + b1 % 64, 2) := by
  have a : ¬ n < 2 := by omega
  have : ¬ (b1 < lo ∨ hi < b1) := by omega
  simp [Lib.slowN, this, a]
theorem slow_bad3 (h : b2 < 128 ∨ 191 < b2) (hs : 3 ≤ sz) : Lib.slowN n b0 b1 b2 b3 sz lo hi = (65533, 1) := by
  have a : ¬ sz ≤ 2 := by omega
  simp [Lib.slowN, h, a]
theorem slow_3 (h : lo ≤ b1 ∧ b1 ≤ hi) (h2 : ¬ (b2 < 128 ∨ 191 < b2)) (hn : 3 ≤ n) : Lib.slowN n b0 b1 b2 b3 3 lo hi = (b0 % 16 * 4096 + b1 % 64 * 64 + b2 % 64, 3) := by
  have a : ¬ n < 3 := by omega
  have : ¬ (b1 < lo ∨ hi < b1) := by omega
  simp [Lib.slowN, this, a, h2]
theorem slow_bad4 (h : b3 < 128 ∨ 191 < b3) : Lib.slowN n b0 b1 b2 b3 4 lo hi = (65533, 1) := by simp [Lib.slowN, h]
theorem slow_4 (h : lo ≤ b1 ∧ b1 ≤ hi) (h2 : ¬ (b2 < 128 ∨ 191 < b2)) (h3 : ¬ (b3 < 128 ∨ 191 < b3)) (hn : 4 ≤ n) : Lib.slowN n b0 b1 b2 b3 4 lo hi = (b0 % 8 * 262144 + b1 % 64 * 4096 + b2 % 64 * 64 + b3 % 64, 4) := by
  have a : ¬ n < 4 := by omega
  have : ¬ (b1 < lo ∨ hi < b1) := by omega
  simp [Lib.slowN, this, a, h2, h3]
end

theorem ugo_bad1 (a k c : Nat) (y : UInt8) (r : List UInt8) (h : usec a y.toNat = false) : ugo a (k + 1) 1 c (y :: r) = (0, 1, 8) := by simp [ugo, h]
theorem ugo_ok1 (a k c : Nat) (y : UInt8) (r : List UInt8) (h : usec a y.toNat = true) : ugo a (k + 1) 1 c (y :: r) = ugo a k 2 (64 * c + y.toNat - 128) r := by simp [ugo, h]
theorem ugo_bad (a k i c : Nat) (y : UInt8) (r : List UInt8) (hi : 1 < i) (h : y.toNat < 128 ∨ 191 < y.toNat) : ugo a (k + 1) i c (y :: r) = (0, i, 8) := by
  rw [ugo, if_pos (Or.inr ⟨hi, h⟩)]
theorem ugo_ok (a k i c : Nat) (y : UInt8) (r : List UInt8) (hi : 1 < i) (h : ¬ (y.toNat < 128 ∨ 191 < y.toNat)) : ugo a (k + 1) i c (y :: r) = ugo a k (i + 1) (64 * c + y.toNat - 128) r := by
  rw [ugo, if_neg (by omega)]

theorem uM_ok {l : List UInt8} {c n : Nat} (h : udec l = (c, n)) (hl : l ≠ []) (hn : 1 < n) : uNextM l = (c, n, 0) := by
  rw [uNextM, if_neg (by simpa using hl), h, if_pos (Or.inr hn)]
theorem uM_beg {l : List UInt8} (h : udec l = (65533, 1)) (hl : l ≠ []) (hb : ubeg l = true) : uNextM l = (0, l.length, 7) := by
  rw [uNextM, if_neg (by simpa using hl), h, if_neg (by simp), if_pos hb]
theorem uM_bad {l : List UInt8} (h : udec l = (65533, 1)) (hl : l ≠ []) (hb : ubeg l = false) : uNextM l = (0, uloop l l.length 1, 8) := by
  rw [uNextM, if_neg (by simpa using hl), h, if_neg (by simp), if_neg (by simp [hb])]
theorem uN_go (x : UInt8) (r : List UInt8) (sz : Nat) (hu : usize x.toNat = sz) (h2 : 2 ≤ sz) : uNext (x :: r) = ugo x.toNat (sz - 1) 1 (if sz = 3 then x.toNat % 16 else if sz = 4 then x.toNat % 8 else x.toNat % 32) r := by
  rw [uNext, hu, if_neg (by omega), if_neg (by omega)]
theorem uloop_1 (x y : UInt8) (r : List UInt8) (h : ubeg [x, y] = false) : uloop (x :: y :: r) (x :: y :: r).length 1 = 1 := by
  show uloop _ (r.length + 1 + 1) 1 = 1
  rw [uloop, if_neg (by simp [h])]
theorem uloop_2 (x y z : UInt8) (r : List UInt8) (h : ubeg [x, y] = true) (h2 : ubeg [x, y, z] = false) : uloop (x :: y :: z :: r) (x :: y :: z :: r).length 1 = 2 := by
  show uloop _ (r.length + 1 + 1 + 1) 1 = 2
  rw [uloop, if_pos (by simp [h]), uloop, if_neg (by simp [h2])]
theorem uloop_3 (x y z u : UInt8) (r : List UInt8) (h : ubeg [x, y] = true) (h2 : ubeg [x, y, z] = true) : uloop (x :: y :: z :: u :: r) (x :: y :: z :: u :: r).length 1 = 3 := by
  show uloop _ (r.length + 1 + 1 + 1 + 1) 1 = 3
  rw [uloop, if_pos (by simp [h]), uloop, if_pos (by simp [h2]), uloop, if_neg (by simp [ubeg4])]

set_option maxHeartbeats 1000000 in
theorem uNext_core (x : UInt8) (r : List UInt8) (sz lo hi : Nat) (hsz : sz = 2 ∨ sz = 3 ∨ sz = 4) (hf : Lib.firstT x.toNat % 8 = sz) (hl : Lib.accLo (Lib.firstT x.toNat / 16) = lo) (hh : Lib.accHi (Lib.firstT x.toNat / 16) = hi)
    (hu : usize x.toNat = sz) (hs : ∀ y, usec x.toNat y = decide (lo ≤ y ∧ y ≤ hi)) (h1 : 128 ≤ lo) (h2 : hi ≤ 191) (hx : Lib.firstT x.toNat < 240) : uNextM (x :: r) = uNext (x :: r) := by
  have hdec : ∀ q, udec (x :: q) = Lib.slowN (q.length + 1) x.toNat (q.getD 0 0).toNat (q.getD 1 0).toNat (q.getD 2 0).toNat sz lo hi := by
    intro q
    simp only [udec, List.length_cons]
    rw [if_neg (by omega), ← hf, ← hl, ← hh, Lib.slow_eq _ _ _ _ _ (by omega) (b_lt _) (b_lt _) (b_lt _) hx]
    simp
  have hx8 := b_lt x
  rw [uN_go x r sz hu (by omega)]
  obtain ⟨k, hk⟩ : ∃ k, sz - 1 = k + 1 := ⟨sz - 2, by omega⟩
  rw [hk]
  have hb2 : ∀ y : UInt8, ubeg [x, y] = !decide (sz ≤ 2 ∨ y.toNat < lo ∨ hi < y.toNat) := by intro y; rw [ubeg2, ufull2, hf, hl, hh]
  have hb3 : ∀ y z : UInt8, ubeg [x, y, z] = !decide (sz ≤ 3 ∨ (y.toNat < lo ∨ hi < y.toNat) ∨ z.toNat < 128 ∨ 191 < z.toNat) := by intro y z; rw [ubeg3, ufull3, hf, hl, hh]
  match r with
  | [] =>
    rw [uM_beg ((hdec []).trans (slow_short _ _ _ _ _ _ _ _ (by simp; omega))) (by simp) (by rw [ubeg1, ufull1, hf]; simp; omega), ugo]; rfl
  | y :: q =>
    have hy8 := b_lt y
    by_cases hy : lo ≤ y.toNat ∧ y.toNat ≤ hi
    · have hsy : usec x.toNat y.toNat = true := by rw [hs]; simpa using hy
      rw [ugo_ok1 _ _ _ _ _ hsy]
      rcases Nat.lt_or_ge sz 3 with hs3 | hs3
      · obtain rfl : sz = 2 := by omega
        obtain rfl : k = 0 := by omega
        rw [uM_ok ((hdec (y :: q)).trans (slow_2 _ _ _ _ _ _ _ hy (by simp))) (by simp) (by omega), ugo]
        simp; omega
      · have e3 : ubeg [x, y] = true := by rw [hb2]; simp; omega
        obtain ⟨k, rfl⟩ : ∃ j, k = j + 1 := ⟨k - 1, by omega⟩
        match q with
        | [] =>
          rw [uM_beg ((hdec [y]).trans (slow_short _ _ _ _ _ _ _ _ (by simp; omega))) (by simp) e3, ugo]; rfl
        | z :: p =>
          have hz8 := b_lt z
          by_cases hz : z.toNat < 128 ∨ 191 < z.toNat
          · have e4 : ubeg [x, y, z] = false := by rw [hb3]; simp; omega
            have e5 : ubeg (x :: y :: z :: p) = false := by
              match p with
              | [] => exact e4
              | _ :: _ => exact ubeg4 _ (by simp)
            rw [ugo_bad _ _ _ _ _ _ (by omega) hz, uM_bad ((hdec (y :: z :: p)).trans (slow_bad3 _ _ _ _ _ _ _ _ hz hs3)) (by simp) e5, uloop_2 _ _ _ _ e3 e4]
          · rw [ugo_ok _ _ _ _ _ _ (by omega) hz]
            rcases Nat.lt_or_ge sz 4 with hs4 | hs4
            · obtain rfl : sz = 3 := by omega
              obtain rfl : k = 0 := by omega
              rw [uM_ok ((hdec (y :: z :: p)).trans (slow_3 _ _ _ _ _ _ _ hy hz (by simp))) (by simp) (by omega), ugo]
              simp; omega
            · obtain rfl : sz = 4 := by omega
              obtain rfl : k = 1 := by omega
              have e4 : ubeg [x, y, z] = true := by rw [hb3]; simp; omega
              match p with
              | [] =>
                rw [uM_beg ((hdec [y, z]).trans (slow_short _ _ _ _ _ _ _ _ (by simp))) (by simp) e4, ugo]; rfl
              | u :: t =>
                have hu8 := b_lt u
                by_cases hw : u.toNat < 128 ∨ 191 < u.toNat
                · rw [ugo_bad _ _ _ _ _ _ (by omega) hw, uM_bad ((hdec (y :: z :: u :: t)).trans (slow_bad4 _ _ _ _ _ _ _ hw)) (by simp) (ubeg4 _ (by simp)), uloop_3 _ _ _ _ _ e3 e4]
                · rw [ugo_ok _ _ _ _ _ _ (by omega) hw, uM_ok ((hdec (y :: z :: u :: t)).trans (slow_4 _ _ _ _ _ _ _ hy hz hw (by simp))) (by simp) (by omega), ugo]
                  simp; omega
    · have hsy : usec x.toNat y.toNat = false := by rw [hs]; simpa using hy
      have e3 : ubeg [x, y] = false := by rw [hb2]; simp; omega
      have e5 : ubeg (x :: y :: q) = false := by
        match q with
        | [] => exact e3
        | [z] => rw [hb3]; simp; omega
        | _ :: _ :: _ => exact ubeg4 _ (by simp)
      rw [ugo_bad1 _ _ _ _ _ hsy, uM_bad ((hdec (y :: q)).trans (slow_bad2 _ _ _ _ _ _ _ _ hy)) (by simp) e5, uloop_1 _ _ _ e3]

theorem udec_ascii (x : UInt8) (r : List UInt8) (h : x.toNat < 128) : udec (x :: r) = (x.toNat, 1) := by
  simp only [udec, List.length_cons]; rw [if_neg (by omega)]; simp [Lib.decodeN, h]

theorem uNext_eq (l : List UInt8) : uNextM l = uNext l := by
  match l with
  | [] => rfl
  | x :: r =>
    have hx8 := b_lt x
    by_cases h0 : x.toNat < 128
    · rw [uNextM, if_neg (by simp), udec_ascii x r h0, if_pos (by left; simp; omega), uNext]
      have : usize x.toNat = 1 := by simp [usize, h0]
      rw [this]; simp
    · by_cases hb : Lib.firstT x.toNat = 241
      · have hu : usize x.toNat = 0 := by
          unfold Lib.firstT at hb
          unfold usize
          repeat' split at hb
          all_goals first | (exfalso; omega) | (repeat' split) <;> omega
        have hd : udec (x :: r) = (65533, 1) := by
          simp only [udec, List.length_cons]; rw [if_neg (by omega)]; exact Lib.bad_eq _ _ _ _ _ (by simpa using hx8) hb
        have hfull : ∀ q, ufull (x :: q) = true := by
          intro q; simp [ufull, hb]
        have hbeg : ∀ q, ubeg (x :: q) = false := by intro q; simp [ubeg, hfull]
        rw [uNextM, if_neg (by simp), hd, if_neg (by simp), hbeg, if_neg (by simp), uNext, hu, if_pos rfl]
        simp [uloop, hbeg]
      · have hlow : Lib.firstT x.toNat < 240 := by
          rcases Lib.firstT_cases x.toNat with h | h | h | h | h | h | h | h | h
          · exfalso; unfold Lib.firstT at h; rw [if_neg h0] at h; (repeat' split at h) <;> omega
          · exact absurd h hb
          all_goals omega
        rcases Lib.firstT_low hlow with h | h | h | h | h | h | h
        · exact uNext_core x r 2 128 191 (by omega) (by rw [Lib.firstT_C2 h]) (by rw [Lib.firstT_C2 h]; rfl) (by rw [Lib.firstT_C2 h]; rfl) (by unfold usize; (repeat' split) <;> omega) (by intro y; unfold usec; rw [if_neg (by omega), if_neg (by omega), if_neg (by omega), if_neg (by omega)]) (by omega) (by omega) hlow
        · exact uNext_core x r 3 160 191 (by omega) (by rw [Lib.firstT_E0 h]) (by rw [Lib.firstT_E0 h]; rfl) (by rw [Lib.firstT_E0 h]; rfl) (by unfold usize; (repeat' split) <;> omega) (by intro y; unfold usec; rw [if_pos h]) (by omega) (by omega) hlow
        · exact uNext_core x r 3 128 191 (by omega) (by rw [Lib.firstT_E1 h]) (by rw [Lib.firstT_E1 h]; rfl) (by rw [Lib.firstT_E1 h]; rfl) (by unfold usize; (repeat' split) <;> omega) (by intro y; unfold usec; rw [if_neg (by omega), if_neg (by omega), if_neg (by omega), if_neg (by omega)]) (by omega) (by omega) hlow
        · exact uNext_core x r 3 128 159 (by omega) (by rw [Lib.firstT_ED h]) (by rw [Lib.firstT_ED h]; rfl) (by rw [Lib.firstT_ED h]; rfl) (by unfold usize; (repeat' split) <;> omega) (by intro y; unfold usec; rw [if_neg (by omega), if_pos h]) (by omega) (by omega) hlow
        · exact uNext_core x r 4 144 191 (by omega) (by rw [Lib.firstT_F0 h]) (by rw [Lib.firstT_F0 h]; rfl) (by rw [Lib.firstT_F0 h]; rfl) (by unfold usize; (repeat' split) <;> omega) (by intro y; unfold usec; rw [if_neg (by omega), if_neg (by omega), if_pos h]) (by omega) (by omega) hlow
        · exact uNext_core x r 4 128 191 (by omega) (by rw [Lib.firstT_F1 h]) (by rw [Lib.firstT_F1 h]; rfl) (by rw [Lib.firstT_F1 h]; rfl) (by unfold usize; (repeat' split) <;> omega) (by intro y; unfold usec; rw [if_neg (by omega), if_neg (by omega), if_neg (by omega), if_neg (by omega)]) (by omega) (by omega) hlow
        · exact uNext_core x r 4 128 143 (by omega) (by rw [Lib.firstT_F4 h]) (by rw [Lib.firstT_F4 h]; rfl) (by rw [Lib.firstT_F4 h]; rfl) (by unfold usize; (repeat' split) <;> omega) (by intro y; unfold usec; rw [if_neg (by omega), if_neg (by omega), if_neg (by omega), if_pos h]) (by omega) (by omega) hlow
end Go.Proofs.YtnogcpjfgnpbbaaDoor
