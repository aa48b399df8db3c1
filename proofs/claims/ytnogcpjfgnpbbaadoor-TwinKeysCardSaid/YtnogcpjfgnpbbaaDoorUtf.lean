/- The contracts of package utf: what each call answers, at every list of bytes. Conditions: the library's two tables are laid. -/
import Derived.Test.YtnogcpjfgnpbbaaDoorBase
import Derived.Test.YtnogcpjfgnpbbaaDoorLays
import Derived.Test.YtnogcpjfgnpbbaaDoorPUtf2
import Derived.Deep.QuietTactic
import Derived.BigQuiet
set_option linter.unusedSimpArgs false
set_option linter.unusedVariables false
namespace Go.Proofs.YtnogcpjfgnpbbaaDoor
open Go.RowKit

/-- The library's two tables. -/
def Tabs (w : World) : Prop := Lib.Utf8Tabs 0 1 w
theorem Tabs.below {w w' : World} (h : Tabs w) (hb : Below w.heap.size w w') : Tabs w' := Utf8Tabs_below h hb

theorem getD_ba (l : List UInt8) (j : Nat) : ((⟨l.toArray⟩ : ByteArray).get! j) = l.getD j 0 := by
  show (l.toArray)[j]! = _
  simp [List.getD_eq_getElem?_getD]; rfl
theorem decodeGo_eq (l : List UInt8) : Lib.decodeGo ⟨l.toArray⟩ = udec l := by
  have hs : (⟨l.toArray⟩ : ByteArray).size = l.length := rfl
  unfold Lib.decodeGo udec
  rw [hs]
  split
  · rfl
  · rw [Lib.decode_at, hs]; simp only [getD_ba, Nat.sub_zero, Nat.zero_add]

theorem decodeRune_any (w : World) (b off n c : Nat) (l : List UInt8) (hT : Tabs w) (h : Rd w (some ⟨b, off, none⟩) n c l) :
    Calls Tryd.prog 40 #[.slice (some ⟨b, off, none⟩) n c] w fun e w' => e = .returned (.tuple #[.int .i32 (udec l).1, .int .i64 (udec l).2]) ∧ Below w.heap.size w w' := by
  have hc := Any7.utf8_DecodeRune laysDecode ⟨l.toArray⟩ b off c w hT (fun j hj => by
    rw [getD_ba]; exact h.get j (by rw [← h.len]; exact hj))
  rw [decodeGo_eq] at hc
  have hs : (⟨l.toArray⟩ : ByteArray).size = n := h.len
  rw [hs] at hc
  exact hc

theorem udec_lt (l : List UInt8) : (udec l).1 ≤ 1114111 ∧ (udec l).2 ≤ 4 := by
  have h0 := b_lt (l.getD 0 0); have h1 := b_lt (l.getD 1 0); have h2 := b_lt (l.getD 2 0); have h3 := b_lt (l.getD 3 0)
  unfold udec Lib.decodeN
  (repeat' split) <;> simp only <;> omega
theorem firstT_lt (b : Nat) : Lib.firstT b < 256 := by rcases Lib.firstT_cases b with h | h | h | h | h | h | h | h | h <;> omega


section
variable (w : World) (b off n c : Nat) (x : UInt8) (r : List UInt8)
set_option maxHeartbeats 1000000 in
theorem fullRune_yes (hT : Tabs w) (h : Rd w (some ⟨b, off, none⟩) n c (x :: r)) (hf : Lib.firstT x.toNat % 8 ≤ n) :
    Calls Tryd.prog 48 #[.slice (some ⟨b, off, none⟩) n c] w fun e w' => e = .returned (.bool true) ∧ w' = w := by
  have hlen := h.len; have hle := h.le; have hbig := h.big
  have h0 := h.get0
  have hx := b_lt x
  have hF := hT.1 x.toNat hx
  have hn : n = r.length + 1 := by simpa using hlen.symm
  have hF256 := firstT_lt x.toNat
  generalize Lib.firstT x.toNat = F at *
  have hn0 : ((n : Int) == 0) = false := by simp; omega
  have hi : 0 < n := by omega
  have hff : ((F % 8 : Nat) : Int) ≤ n := by omega
  clear hn hlen hf h hT
  go_enter Tryd.func48, Tryd.ntmps48
  go_wp2
  all_goals first | (go_ret; exact ⟨rfl, rfl⟩) | (exfalso; omega)

set_option maxHeartbeats 1000000 in
theorem fullRune_one (hT : Tabs w) (h : Rd w (some ⟨b, off, none⟩) n c [x]) (hf : 1 < Lib.firstT x.toNat % 8) :
    Calls Tryd.prog 48 #[.slice (some ⟨b, off, none⟩) n c] w fun e w' => e = .returned (.bool false) ∧ Below w.heap.size w w' := by
  have hle := h.le; have hbig := h.big
  have h0 := h.get0
  have hx := b_lt x
  have hF := hT.1 x.toNat hx
  obtain rfl : n = 1 := by have := h.len; simpa using this.symm
  have hF256 := firstT_lt x.toNat
  have hA := (hT.2 (Lib.firstT x.toNat / 16) (by omega)).1
  have hB := (hT.2 (Lib.firstT x.toNat / 16) (by omega)).2
  generalize Lib.firstT x.toNat = F at *
  rw [Nat.mul_comm] at hA hB
  generalize Lib.accLo (F / 16) = lo at *
  generalize Lib.accHi (F / 16) = hi at *
  have hff : ¬ ((F % 8 : Nat) : Int) ≤ 1 := by omega
  clear h hT hf
  go_enter Tryd.func48, Tryd.ntmps48
  go_wp2
  go_quiet (fail)
  go_wp2
  go_ret
  exact ⟨rfl, below_drewN ((Below.refl _ _).alloc (Nat.le_refl _) _) _⟩

set_option maxHeartbeats 1000000 in
theorem fullRune_lo (y : UInt8) (q : List UInt8) (hT : Tabs w) (h : Rd w (some ⟨b, off, none⟩) n c ( x :: y :: q)) (hf : n < Lib.firstT x.toNat % 8) (hy : y.toNat < Lib.accLo (Lib.firstT x.toNat / 16)) :
    Calls Tryd.prog 48 #[.slice (some ⟨b, off, none⟩) n c] w fun e w' => e = .returned (.bool true) ∧ Below w.heap.size w w' := by
  have hle := h.le; have hbig := h.big
  have h0 := h.get0
  have hx := b_lt x
  have hF := hT.1 x.toNat hx
  have hlen := h.len
  simp only [List.length_cons, List.length_nil] at hlen
  have h1 : w.cell? ⟨b, off + 1, none⟩ = some (.int .u8 y.toNat) := h.cell b off rfl 1 y rfl
  have hF256 := firstT_lt x.toNat
  have hA := (hT.2 (Lib.firstT x.toNat / 16) (by omega)).1
  have hB := (hT.2 (Lib.firstT x.toNat / 16) (by omega)).2
  generalize Lib.firstT x.toNat = F at *
  rw [Nat.mul_comm] at hA hB
  generalize Lib.accLo (F / 16) = lo at *
  generalize Lib.accHi (F / 16) = hi at *
  have hff : ¬ ((F % 8 : Nat) : Int) ≤ n := by omega
  have hbs : b < w.heap.size := World.block_lt_of_cell? _ _ h0
  have hn0 : ((n : Int) == 0) = false := by simp; omega
  have hn1 : (1 : Int) < n := by omega
  generalize y.toNat = Y at *
  have hyz0 : (Y : Int) < lo := by omega
  clear hlen h hT hf hy
  go_enter Tryd.func48, Tryd.ntmps48
  go_wp2
  go_quiet (fail)
  go_wp2
  all_goals (go_ret; exact ⟨rfl, below_drewN ((Below.refl _ _).alloc (Nat.le_refl _) _) _⟩)

set_option maxHeartbeats 1000000 in
theorem fullRune_hi (y : UInt8) (q : List UInt8) (hT : Tabs w) (h : Rd w (some ⟨b, off, none⟩) n c ( x :: y :: q)) (hf : n < Lib.firstT x.toNat % 8) (hy : ¬ y.toNat < Lib.accLo (Lib.firstT x.toNat / 16)) (hy2 : Lib.accHi (Lib.firstT x.toNat / 16) < y.toNat) :
    Calls Tryd.prog 48 #[.slice (some ⟨b, off, none⟩) n c] w fun e w' => e = .returned (.bool true) ∧ Below w.heap.size w w' := by
  have hle := h.le; have hbig := h.big
  have h0 := h.get0
  have hx := b_lt x
  have hF := hT.1 x.toNat hx
  have hlen := h.len
  simp only [List.length_cons, List.length_nil] at hlen
  have h1 : w.cell? ⟨b, off + 1, none⟩ = some (.int .u8 y.toNat) := h.cell b off rfl 1 y rfl
  have hF256 := firstT_lt x.toNat
  have hA := (hT.2 (Lib.firstT x.toNat / 16) (by omega)).1
  have hB := (hT.2 (Lib.firstT x.toNat / 16) (by omega)).2
  generalize Lib.firstT x.toNat = F at *
  rw [Nat.mul_comm] at hA hB
  generalize Lib.accLo (F / 16) = lo at *
  generalize Lib.accHi (F / 16) = hi at *
  have hff : ¬ ((F % 8 : Nat) : Int) ≤ n := by omega
  have hbs : b < w.heap.size := World.block_lt_of_cell? _ _ h0
  have hn0 : ((n : Int) == 0) = false := by simp; omega
  have hn1 : (1 : Int) < n := by omega
  generalize y.toNat = Y at *
  have hyz0 : decide (Y < lo) = false := by simp; omega
  have hyz1 : decide (hi < Y) = true := by simp; omega
  clear hlen h hT hf hy hy2
  go_enter Tryd.func48, Tryd.ntmps48
  go_wp2
  go_quiet (fail)
  go_wp2
  all_goals (go_ret; exact ⟨rfl, below_drewN ((Below.refl _ _).alloc (Nat.le_refl _) _) _⟩)

set_option maxHeartbeats 1000000 in
theorem fullRune_two (y : UInt8) (hT : Tabs w) (h : Rd w (some ⟨b, off, none⟩) n c ( [x, y])) (hf : n < Lib.firstT x.toNat % 8) (hy : ¬ y.toNat < Lib.accLo (Lib.firstT x.toNat / 16)) (hy2 : ¬ Lib.accHi (Lib.firstT x.toNat / 16) < y.toNat) :
    Calls Tryd.prog 48 #[.slice (some ⟨b, off, none⟩) n c] w fun e w' => e = .returned (.bool false) ∧ Below w.heap.size w w' := by
  have hle := h.le; have hbig := h.big
  have h0 := h.get0
  have hx := b_lt x
  have hF := hT.1 x.toNat hx
  have hlen := h.len
  simp only [List.length_cons, List.length_nil] at hlen
  have h1 : w.cell? ⟨b, off + 1, none⟩ = some (.int .u8 y.toNat) := h.cell b off rfl 1 y rfl
  have hF256 := firstT_lt x.toNat
  have hA := (hT.2 (Lib.firstT x.toNat / 16) (by omega)).1
  have hB := (hT.2 (Lib.firstT x.toNat / 16) (by omega)).2
  generalize Lib.firstT x.toNat = F at *
  rw [Nat.mul_comm] at hA hB
  generalize Lib.accLo (F / 16) = lo at *
  generalize Lib.accHi (F / 16) = hi at *
  have hff : ¬ ((F % 8 : Nat) : Int) ≤ n := by omega
  have hbs : b < w.heap.size := World.block_lt_of_cell? _ _ h0
  have hn0 : ((n : Int) == 0) = false := by simp; omega
  have hn1 : (1 : Int) < n := by omega
  have hn2 : ¬ (2 : Int) < n := by omega
  generalize y.toNat = Y at *
  have hyz0 : decide (Y < lo) = false := by simp; omega
  have hyz1 : decide (hi < Y) = false := by simp; omega
  clear hlen h hT hf hy hy2
  go_enter Tryd.func48, Tryd.ntmps48
  go_wp2
  go_quiet (fail)
  go_wp2
  all_goals (go_ret; exact ⟨rfl, below_drewN ((Below.refl _ _).alloc (Nat.le_refl _) _) _⟩)

set_option maxHeartbeats 1000000 in
theorem fullRune_three (y : UInt8) (z : UInt8) (q : List UInt8) (hT : Tabs w) (h : Rd w (some ⟨b, off, none⟩) n c ( x :: y :: z :: q)) (hf : n < Lib.firstT x.toNat % 8) (hy : ¬ y.toNat < Lib.accLo (Lib.firstT x.toNat / 16)) (hy2 : ¬ Lib.accHi (Lib.firstT x.toNat / 16) < y.toNat) :
    Calls Tryd.prog 48 #[.slice (some ⟨b, off, none⟩) n c] w fun e w' => e = .returned (.bool (decide (z.toNat < 128) || decide (191 < z.toNat))) ∧ Below w.heap.size w w' := by
  have hle := h.le; have hbig := h.big
  have h0 := h.get0
  have hx := b_lt x
  have hF := hT.1 x.toNat hx
  have hlen := h.len
  simp only [List.length_cons, List.length_nil] at hlen
  have h1 : w.cell? ⟨b, off + 1, none⟩ = some (.int .u8 y.toNat) := h.cell b off rfl 1 y rfl
  have h2 : w.cell? ⟨b, off + 2, none⟩ = some (.int .u8 z.toNat) := h.cell b off rfl 2 z rfl
  have hF256 := firstT_lt x.toNat
  have hA := (hT.2 (Lib.firstT x.toNat / 16) (by omega)).1
  have hB := (hT.2 (Lib.firstT x.toNat / 16) (by omega)).2
  generalize Lib.firstT x.toNat = F at *
  rw [Nat.mul_comm] at hA hB
  generalize Lib.accLo (F / 16) = lo at *
  generalize Lib.accHi (F / 16) = hi at *
  have hff : ¬ ((F % 8 : Nat) : Int) ≤ n := by omega
  have hbs : b < w.heap.size := World.block_lt_of_cell? _ _ h0
  have hn0 : ((n : Int) == 0) = false := by simp; omega
  have hn1 : (1 : Int) < n := by omega
  have hn2 : (2 : Int) < n := by omega
  generalize y.toNat = Y at *
  have hyz0 : decide (Y < lo) = false := by simp; omega
  have hyz1 : decide (hi < Y) = false := by simp; omega
  clear hlen h hT hf hy hy2
  go_enter Tryd.func48, Tryd.ntmps48
  go_wp2
  go_quiet (fail)
  go_wp2
  all_goals (go_ret; exact ⟨ret_b (by simp; omega), below_drewN ((Below.refl _ _).alloc (Nat.le_refl _) _) _⟩)
end

theorem fullRune_any (w : World) (b off n c : Nat) (l : List UInt8) (hT : Tabs w) (h : Rd w (some ⟨b, off, none⟩) n c l) :
    Calls Tryd.prog 48 #[.slice (some ⟨b, off, none⟩) n c] w fun e w' => e = .returned (.bool (ufull l)) ∧ Below w.heap.size w w' := by
  have hlen := h.len
  match l, h with
  | [], h =>
    obtain rfl : n = 0 := by simpa using hlen.symm
    go_enter Tryd.func48, Tryd.ntmps48
    go_wp2
    go_ret
    exact ⟨rfl, Below.refl _ _⟩
  | x :: r, h =>
    by_cases hf : Lib.firstT x.toNat % 8 ≤ n
    · have e : ufull (x :: r) = true := by simp only [ufull, hlen, hf, if_true]
      rw [e]
      exact (fullRune_yes w b off n c x r hT h hf).mono (by rintro e w' ⟨rfl, rfl⟩; exact ⟨rfl, Below.refl _ _⟩)
    · match r, h with
      | [], h =>
        have : n = 1 := by simpa using hlen.symm
        subst this
        have e : ufull [x] = false := by simp only [ufull, hlen, hf, if_false]
        rw [e]; exact fullRune_one w b off 1 c x hT h (by omega)
      | y :: q, h =>
        by_cases hy : y.toNat < Lib.accLo (Lib.firstT x.toNat / 16)
        · have e : ufull (x :: y :: q) = true := by simp only [ufull, hlen, hf, if_false, hy, true_or, if_true]
          rw [e]; exact fullRune_lo w b off n c x y q hT h (by omega) hy
        · by_cases hy2 : Lib.accHi (Lib.firstT x.toNat / 16) < y.toNat
          · have e : ufull (x :: y :: q) = true := by simp only [ufull, hlen, hf, if_false, hy2, or_true, if_true]
            rw [e]; exact fullRune_hi w b off n c x y q hT h (by omega) hy hy2
          · match q, h with
            | [], h =>
              have e : ufull [x, y] = false := by simp only [ufull, hlen, hf, if_false, hy, hy2, or_self]
              rw [e]; exact fullRune_two w b off n c x y hT h (by omega) hy hy2
            | z :: q, h =>
              have e : ufull (x :: y :: z :: q) = decide (z.toNat < 128 ∨ 191 < z.toNat) := by simp only [ufull, hlen, hf, if_false, hy, hy2, or_self]
              rw [e, Bool.decide_or]; exact fullRune_three w b off n c x y z q hT h (by omega) hy hy2

set_option maxHeartbeats 1000000 in
theorem beginning_any (w : World) (b off n c : Nat) (l : List UInt8) (hT : Tabs w) (h : Rd w (some ⟨b, off, none⟩) n c l) :
    Calls Tryd.prog 41 #[.slice (some ⟨b, off, none⟩) n c] w fun e w' => e = .returned (.bool (ubeg l)) ∧ Below w.heap.size w w' := by
  have hlen := h.len; have hle := h.le; have hbig := h.big
  have hu : ubeg l = (decide (0 < n) && decide (n < 4) && !ufull l) := by rw [ubeg, hlen]
  have hc := Lib.hid (fullRune_any w b off n c l hT h)
  rw [hu]
  generalize ufull l = F at hc
  clear hu hlen
  by_cases a : (0 : Int) < n <;> by_cases d : (n : Int) < 4
  all_goals
    (go_enter Tryd.func41, Tryd.ntmps41
     go_wp2_with (go_at_call 48; refine hc.out.mono ?_; rintro e w' ⟨rfl, hb⟩)
     all_goals go_ret
     all_goals (refine ⟨ret_b ?_, ?_⟩ <;> first | exact Below.refl _ _ | exact hb | (simp; done) | (simp; omega)))

set_option maxHeartbeats 1000000 in
theorem utfNext_any (w : World) (b off n c : Nat) (l : List UInt8) (hT : Tabs w) (h : Rd w (some ⟨b, off, none⟩) n c l) :
    Calls Tryd.prog 26 #[.slice (some ⟨b, off, none⟩) n c] w fun e w' => e = .returned (.tuple #[.int .i64 (uNext l).1, .int .i64 (uNext l).2.1, .int .i64 (uNext l).2.2]) ∧ Below w.heap.size w w' := by
  have hlen := h.len; have hle := h.le; have hbig := h.big
  rw [← uNext_eq]
  by_cases hz : n = 0
  · subst hz
    have : uNextM l = (0, 0, 6) := by rw [uNextM, if_pos hlen]
    rw [this]
    go_enter Tryd.func26, Tryd.ntmps26
    go_wp2
    go_ret3
    exact ⟨rfl, Below.refl _ _⟩
  · have hn0 : ((n : Int) == 0) = false := by simp; omega
    have hd := Lib.hid (decodeRune_any w b off n c l hT h)
    have hlt := udec_lt l
    by_cases hA : (udec l).1 ≠ 65533 ∨ 1 < (udec l).2
    · have : uNextM l = ((udec l).1, (udec l).2, 0) := by rw [uNextM, if_neg (by omega), if_pos hA]
      rw [this]
      generalize (udec l).1 = C at *
      generalize (udec l).2 = N at *
      obtain ⟨hC, hN⟩ := hlt
      clear this hlen
      by_cases hC2 : C = 65533
      · have hN2 : (1 : Int) < N := by omega
        have hC3 : ((C : Int) != 65533) = false := by simp; omega
        clear hA hC2
        go_enter Tryd.func26, Tryd.ntmps26
        go_wp2_with (go_at_call 40; refine hd.out.mono ?_; rintro e w' ⟨rfl, hb⟩)
        go_ret3
        exact ⟨rfl, hb⟩
      · have hC3 : ((C : Int) != 65533) = true := by simp; omega
        clear hA
        go_enter Tryd.func26, Tryd.ntmps26
        go_wp2_with (go_at_call 40; refine hd.out.mono ?_; rintro e w' ⟨rfl, hb⟩)
        go_ret3
        exact ⟨rfl, hb⟩
    · obtain ⟨hC, hN⟩ : (udec l).1 = 65533 ∧ (udec l).2 ≤ 1 := by omega
      have hM : uNextM l = if ubeg l = true then (0, l.length, 7) else (0, uloop l l.length 1, 8) := by rw [uNextM, if_neg (by omega), if_neg hA]
      rw [hM]
      rw [hC] at hd
      generalize (udec l).2 = N at *
      have hN2 : ¬ (1 : Int) < N := by omega
      clear hA hC hN hlt hM
      have hbe : ∀ B, ubeg l = B → Hid (∀ w', Below w.heap.size w w' → Calls Tryd.prog 41 #[.slice (some ⟨b, off, none⟩) n c] w' fun e w'' => e = .returned (.bool B) ∧ Below w'.heap.size w' w'') := by
        rintro B rfl w' hB; exact beginning_any w' b off n c l (hT.below hB) (h.below hB)
      by_cases hbg : ubeg l = true
      · rw [if_pos hbg, hlen]
        replace hbe := hbe _ hbg
        clear hlen hbg
        go_enter Tryd.func26, Tryd.ntmps26
        go_wp2_with (first | (go_at_call 40; refine hd.out.mono ?_; rintro e w' ⟨rfl, hb⟩) | (go_at_call 41; refine (hbe.out _ hb).mono ?_; rintro e w'' ⟨rfl, hb'⟩))
        go_ret3
        exact ⟨rfl, hb.trans (hb'.mono hb.size)⟩
      · simp only [Bool.not_eq_true] at hbg
        have hbk : Hid (∀ (k : Nat) (w' : World), k + 1 ≤ n → Below w.heap.size w w' → Calls Tryd.prog 41 #[.slice (some ⟨b, off, none⟩) (k + 1) c] w' fun e w'' => e = .returned (.bool (ubeg (l.take (k + 1)))) ∧ Below w'.heap.size w' w'') :=
          fun k w' hk hB => beginning_any w' b off (k + 1) c (l.take (k + 1)) (hT.below hB) ((h.below hB).take (k + 1) hk)
        replace hbe := hbe _ hbg
        rw [if_neg (by simp [hbg])]
        have hL : Hid (∀ d k, l.length ≤ k + d → 1 ≤ k → k ≤ n → (¬ (k : Int) < n ∨ ubeg (l.take (k + 1)) = false) → uloop l d k = k) := by
          intro d k h1 h2 h3 h4
          cases d with
          | zero => rfl
          | succ d =>
            rw [uloop, if_neg (fun ⟨a, b⟩ => h4.elim (fun h => h (by omega)) (fun h => by rw [h] at b; cases b))]
        have hS : Hid (∀ d k, l.length ≤ k + d → (k : Int) < n → ubeg (l.take (k + 1)) = true → ∃ d', l.length ≤ (k + 1) + d' ∧ uloop l d k = uloop l d' (k + 1)) := by
          intro d k h1 h2 h3
          cases d with
          | zero => omega
          | succ d => exact ⟨d, by omega, by rw [uloop, if_pos ⟨by omega, h3⟩]⟩
        have hlen' := Lib.hid hlen
        clear hlen hbg
        go_enter Tryd.func26, Tryd.ntmps26
        go_wp2_with (first | (go_at_call 40; refine hd.out.mono ?_; rintro e w' ⟨rfl, hb⟩) | (go_at_call 41; refine (hbe.out _ hb).mono ?_; rintro e w'' ⟨rfl, hb'⟩))
        go_loopw [6] (fun v wr => ∃ k d : Nat, v = .int .i64 k ∧ 1 ≤ k ∧ k ≤ n ∧ l.length ≤ k + d ∧ Hid (uloop l l.length 1 = uloop l d k) ∧ Below w.heap.size w wr) (fun v _ => n - (intOf v).toNat)
        case atStart => exact ⟨1, l.length, rfl, by omega, by omega, by omega, rfl, hb.trans (hb'.mono hb.size)⟩
        case round =>
          obtain ⟨k, d, rfl, h1, h2, h3, hR, hB⟩ := hrel
          by_cases hk : (k : Int) < n
          · have hcall := Lib.hid (hbk.out k wr (by omega) hB)
            by_cases hg : ubeg (l.take (k + 1)) = true
            · obtain ⟨d', h4, h5⟩ := hS.out d k h3 hk hg
              have hR' : Hid (uloop l l.length 1 = uloop l d' (k + 1)) := hR.out.trans h5
              rw [hg] at hcall
              clear h5 hR hg
              go_wp2_with (go_at_call 41; refine hcall.out.mono ?_; rintro e w'' ⟨rfl, hb''⟩)
              go_roundw
              case rel => exact ⟨k + 1, d', by go_num, by omega, by omega, h4, hR', hB.trans (hb''.mono hB.size)⟩
              case measure => simp [intOf]; omega
            · simp only [Bool.not_eq_true] at hg
              have hE := Lib.hid (hL.out d k h3 h1 h2 (Or.inr hg))
              rw [hg] at hcall
              clear hg
              go_wp2_with (go_at_call 41; refine hcall.out.mono ?_; rintro e w'' ⟨rfl, hb''⟩)
              go_ret3
              rw [hR.out, hE.out]
              exact ⟨rfl, hB.trans (hb''.mono hB.size)⟩
          · have hE := Lib.hid (hL.out d k h3 h1 h2 (Or.inl (by omega)))
            go_wp2_with fail
            go_ret3
            rw [hR.out, hE.out]
            exact ⟨rfl, hB⟩

/-- is it a character? may it be shown? -/
def ufine (c : Int) : Bool := decide (0 ≤ c ∧ c ≤ 1114111 ∧ ¬ (55296 ≤ c ∧ c ≤ 57343))
def uprint (c : Int) : Bool := ufine c && decide (32 ≤ c ∧ ¬ (127 ≤ c ∧ c ≤ 159))

theorem hbyte : (Tryd.prog.info? 5).map (fun i => (i.zero, i.size, i.bytes)) = some (some (.int .u8 0), 1, 1) := by kernel_rfl

theorem appendRune_nil (w : World) (r : Int) (h0 : 0 ≤ r) (h1 : r ≤ 1114111) :
    Calls Tryd.prog 30 #[.slice none 0 0, .int .i32 r] w fun e w' => ∃ v', e = .returned v' ∧ w'.ownsRow w.heap.size 5 1 v' (Lib.runeCells r).length (Lib.runeCells r) ∧ Below w.heap.size w w' := by
  refine (Any.utf8_AppendRune_plain laysAppendRune hbyte w.heap.size (.slice none 0 0) 0 [] r (by omega) (by omega) w ⟨by simp, Or.inl ⟨rfl, rfl⟩⟩ (by omega) (Nat.le_refl _)).mono ?_
  rintro e w' ⟨v', rfl, ho, o, hg⟩
  rw [Nat.zero_add, List.nil_append] at ho
  exact ⟨v', rfl, ho, ((Below.refl _ _).alloc (Nat.le_refl _) o).grown hg (by simp) (by simp [Value.ownBlock])⟩

theorem validRune_any (w : World) (r : Int) : Calls Tryd.prog 29 #[.int .i32 r] w fun e w' => e = .returned (.bool (Lib.validRune r)) ∧ w' = w :=
  Any.utf8_ValidRune laysValidRune r w

set_option maxHeartbeats 400000 in
theorem utfPut_no (w : World) (c : Int) (h : ufine c = false) :
    Calls Tryd.prog 15 #[.int .i64 c] w fun e w' => e = .returned (.tuple #[.slice none 0 0, .int .i64 3]) ∧ w = w' := by
  have hv := Lib.hid (validRune_any w c)
  unfold ufine at h
  have hv2 : 0 ≤ c → c ≤ 1114111 → Lib.validRune c = false := by
    intro a b; unfold Lib.validRune; simp at h ⊢; omega
  by_cases h0 : c < 0
  · go_enter Tryd.func15, Tryd.ntmps15
    go_wp2_with fail
    go_ret2
    exact ⟨rfl, rfl⟩
  · by_cases h1 : 1114111 < c
    · go_enter Tryd.func15, Tryd.ntmps15
      go_wp2_with fail
      go_ret2
      exact ⟨rfl, rfl⟩
    · rw [hv2 (by omega) (by omega)] at hv
      clear hv2 h
      go_enter Tryd.func15, Tryd.ntmps15
      go_wp2_with (go_at_call 29; refine hv.out.mono ?_; rintro e w' ⟨rfl, rfl⟩)
      go_ret2
      exact ⟨rfl, rfl⟩

set_option maxHeartbeats 400000 in
theorem utfPut_ok (w : World) (c : Int) (h : ufine c = true) :
    Calls Tryd.prog 15 #[.int .i64 c] w fun e w' => ∃ v, e = .returned (.tuple #[v, .int .i64 0]) ∧ w'.ownsRow w.heap.size 5 1 v (Lib.runeCells c).length (Lib.runeCells c) ∧ Below w.heap.size w w' := by
  unfold ufine at h
  have h3 : Lib.validRune c = true := by unfold Lib.validRune; simp at h ⊢; omega
  have hv := Lib.hid (validRune_any w c)
  rw [h3] at hv
  obtain ⟨h0, h1⟩ : 0 ≤ c ∧ c ≤ 1114111 := by simp at h; omega
  have ha := Lib.hid (appendRune_nil w c h0 h1)
  clear h h3
  go_enter Tryd.func15, Tryd.ntmps15
  go_wp2_with (first | (go_at_call 29; refine hv.out.mono ?_; rintro e w' ⟨rfl, rfl⟩) | (go_at_call 30; refine ha.out.mono ?_; rintro e w' ⟨v, rfl, ho, hb⟩))
  go_ret2
  exact ⟨v, rfl, ho, hb⟩

set_option maxHeartbeats 400000 in
theorem printable_any (w : World) (c : Int) :
    Calls Tryd.prog 27 #[.int .i64 c] w fun e w' => e = .returned (.bool (uprint c)) ∧ Below w.heap.size w w' := by
  by_cases hf : ufine c = true
  · have hp := Lib.hid (utfPut_ok w c hf)
    have hu : uprint c = decide (32 ≤ c ∧ ¬ (127 ≤ c ∧ c ≤ 159)) := by rw [uprint, hf]; rfl
    rw [hu]
    clear hf hu
    by_cases h1 : 32 ≤ c <;> by_cases h2 : c < 127 <;> by_cases h3 : 159 < c
    all_goals
      (go_enter Tryd.func27, Tryd.ntmps27
       go_wp2_with (go_at_call 15; refine hp.out.mono ?_; rintro e w' ⟨v, rfl, ho, hb⟩)
       all_goals go_ret
       all_goals (refine ⟨ret_b ?_, hb⟩ <;> first | (simp; done) | (simp; omega) | (rw [Bool.eq_iff_iff]; simp only [Bool.or_eq_true, Bool.and_eq_true, decide_eq_true_eq]; omega)))
  · simp only [Bool.not_eq_true] at hf
    have hp := Lib.hid (utfPut_no w c hf)
    have hu : uprint c = false := by rw [uprint, hf]; rfl
    rw [hu]
    clear hf hu
    go_enter Tryd.func27, Tryd.ntmps27
    go_wp2_with (go_at_call 15; refine hp.out.mono ?_; rintro e w' ⟨rfl, rfl⟩)
    go_ret
    exact ⟨rfl, Below.refl _ _⟩
end Go.Proofs.YtnogcpjfgnpbbaaDoor
