/- The contracts of twin.turned, twin.Turn, and of escseq.Next, Begins as a whole. Conditions: none. -/
import Derived.Test.YtnogcpjfgnpbbaaDoorEsc
import Derived.Test.YtnogcpjfgnpbbaaDoorClone
set_option linter.unusedSimpArgs false
set_option linter.unusedVariables false
namespace Go.Proofs.YtnogcpjfgnpbbaaDoor
open Go.RowKit

theorem escNext_any (w : World) (b off n c : Nat) (l : List UInt8) (h : Rd w (some ⟨b, off, none⟩) n c l) :
    Calls Tryd.prog 24 #[.slice (some ⟨b, off, none⟩) n c] w fun e w' => KeyRes (eNext l) e ∧ Below w.heap.size w w' := by
  match l, h with
  | [], h =>
    obtain rfl : n = 0 := by have := h.len; simpa using this.symm
    exact escNext_nil w b off c
  | [x], h =>
    obtain rfl : n = 1 := by have := h.len; simpa using this.symm
    by_cases hx : x.toNat = 27
    · have e : eNext [x] = (0, 1, 7) := by rw [eNext, if_pos hx]
      rw [e]; exact escNext_one w b off c x h hx
    · have e : eNext [x] = (0, 0, 8) := by rw [eNext, if_neg hx]
      rw [e]; exact escNext_not w b off 1 c x [] h hx
  | x :: y :: r, h =>
    by_cases hx : x.toNat = 27
    · by_cases hy : y.toNat ≠ 91 ∧ y.toNat ≠ 79
      · have e : eNext (x :: y :: r) = (15, 1, 0) := by rw [eNext, if_pos hx, if_pos hy]
        rw [e]; exact escNext_other w b off n c x y r h hx hy.1 hy.2
      · have e : eNext (x :: y :: r) = escan (x :: y :: r) (decide (y.toNat = 79)) (r.length + 1) 2 false := by rw [eNext, if_pos hx, if_neg hy]
        rw [e]
        refine escNext_scan w b off n c x y r (decide (y.toNat = 79)) h hx ?_
        by_cases h9 : y.toNat = 79
        · simp [h9]
        · simp [h9]; omega
    · have e : eNext (x :: y :: r) = (0, 0, 8) := by rw [eNext, if_neg hx]
      rw [e]; exact escNext_not w b off n c x (y :: r) h hx

def ebeg (l : List UInt8) : Bool := decide ((eNext l).2.2 = 7)
set_option maxHeartbeats 1000000 in
theorem escBegins_any (w : World) (b off n c : Nat) (l : List UInt8) (h : Rd w (some ⟨b, off, none⟩) n c l) :
    Calls Tryd.prog 25 #[.slice (some ⟨b, off, none⟩) n c] w fun e w' => e = .returned (.bool (ebeg l)) ∧ Below w.heap.size w w' := by
  have hc := Lib.hid (escNext_any w b off n c l h)
  unfold ebeg
  generalize eNext l = p at *
  obtain ⟨k, m, e⟩ := p
  simp only
  clear h
  unfold KeyRes at hc
  simp only at hc
  by_cases he : e = 7
  · subst he
    go_enter Tryd.func25, Tryd.ntmps25
    go_wp2_with (go_at_call 24; refine hc.out.mono ?_; rintro e w' ⟨rfl, hb⟩)
    go_ret
    exact ⟨rfl, by (repeat (first | exact Below.refl _ _ | assumption | refine Below.drew ?_ | refine Below.alloc ?_ ?_ _ | refine Below.setCell ?_ ?_ _)); all_goals first | exact hb.size | omega | (simp; done) | (simp; omega)⟩
  · have hq : ((e : Int) == 7) = false := by simp; omega
    rw [decide_eq_false he]
    clear he
    go_enter Tryd.func25, Tryd.ntmps25
    go_wp2_with (go_at_call 24; refine hc.out.mono ?_; rintro e w' ⟨rfl, hb⟩)
    go_ret
    exact ⟨rfl, by (repeat (first | exact Below.refl _ _ | assumption | refine Below.drew ?_ | refine Below.alloc ?_ ?_ _ | refine Below.setCell ?_ ?_ _)); all_goals first | exact hb.size | omega | (simp; done) | (simp; omega)⟩

/-- a place in a row, gone on -/
def turnedM (c frm to by_ : Int) : Int :=
  if Int.tmod (c - frm + Int.tmod by_ (to - frm + 1)) (to - frm + 1) < 0 then frm + (Int.tmod (c - frm + Int.tmod by_ (to - frm + 1)) (to - frm + 1) + (to - frm + 1)) else frm + Int.tmod (c - frm + Int.tmod by_ (to - frm + 1)) (to - frm + 1)
theorem tmod_bd (a n : Int) (hn : 0 < n) : -n < Int.tmod a n ∧ Int.tmod a n < n := by
  have h1 := Int.tmod_lt_of_pos a hn
  have h2 : Int.tmod (-a) n = - Int.tmod a n := Int.neg_tmod a n
  have h3 := Int.tmod_lt_of_pos (-a) hn
  omega
theorem turnedM_bd (c frm to by_ : Int) (h1 : frm ≤ c) (h2 : c ≤ to) : frm ≤ turnedM c frm to by_ ∧ turnedM c frm to by_ ≤ to := by
  have h := tmod_bd (c - frm + Int.tmod by_ (to - frm + 1)) (to - frm + 1) (by omega)
  unfold turnedM
  split <;> omega

set_option maxHeartbeats 1000000 in
theorem turned_any (w : World) (c frm to by_ : Int) (h0 : 0 ≤ frm) (h1 : frm ≤ c) (h2 : c ≤ to) (h3 : to ≤ 1114111) (hb : -9223372036854775808 ≤ by_ ∧ by_ ≤ 9223372036854775807) :
    Calls Tryd.prog 28 #[.int .i64 c, .int .i64 frm, .int .i64 to, .int .i64 by_] w fun e w' => e = .returned (.int .i64 (turnedM c frm to by_)) ∧ w = w' := by
  obtain ⟨M, hM⟩ : ∃ M, to - frm + 1 = M := ⟨_, rfl⟩
  have hT : Hid (turnedM c frm to by_ = if Int.tmod (c - frm + Int.tmod by_ M) M < 0 then frm + (Int.tmod (c - frm + Int.tmod by_ M) M + M) else frm + Int.tmod (c - frm + Int.tmod by_ M) M) := Lib.hid (by unfold turnedM; rw [hM])
  have k1 := tmod_bd by_ M (by omega)
  have k2 := tmod_bd (c - frm + Int.tmod by_ M) M (by omega)
  generalize turnedM c frm to by_ = V at *
  have hMpos : 0 < M := by omega
  have hM2 : M ≤ 1114112 := by omega
  have hq0 : (M == 0) = false := by simp; omega
  have hM' := Lib.hid hM
  go_enter Tryd.func28, Tryd.ntmps28
  go_wp2
  · go_ret
    exact ⟨ret_i (by rw [hT.out, if_pos (by assumption)]), rfl⟩
  · go_ret
    exact ⟨ret_i (by rw [hT.out, if_neg (by omega)]), rfl⟩

/-- a character, turned: what the program's Turn answers of one that may be shown -/
def turnM (c by_ : Int) : Int :=
  if c ≤ 126 then turnedM c 32 126 by_ else if c ≤ 2047 then turnedM c 160 2047 by_ else if 65535 < c then turnedM c 65536 1114111 by_
  else if turnedM (if 55296 < c then c - 2048 else c) 2048 63487 by_ ≥ 55296 then turnedM (if 55296 < c then c - 2048 else c) 2048 63487 by_ + 2048 else turnedM (if 55296 < c then c - 2048 else c) 2048 63487 by_

set_option maxHeartbeats 2000000 in
theorem turn_any (w : World) (c by_ : Int) (hp : uprint c = true) (hb : -9223372036854775808 ≤ by_ ∧ by_ ≤ 9223372036854775807) :
    Calls Tryd.prog 14 #[.int .i64 c, .int .i64 by_] w fun e w' => e = .returned (.tuple #[.int .i64 (turnM c by_), .int .i64 0]) ∧ Below w.heap.size w w' := by
  have hpr := Lib.hid (printable_any w c)
  rw [hp] at hpr
  have hc : (32 ≤ c ∧ c ≤ 126) ∨ (160 ≤ c ∧ c ≤ 2047) ∨ (2048 ≤ c ∧ c < 55296) ∨ (57343 < c ∧ c ≤ 65535) ∨ (65536 ≤ c ∧ c ≤ 1114111) := by
    unfold uprint ufine at hp; simp at hp; omega
  clear hp
  rcases hc with ⟨q1, q2⟩ | ⟨q1, q2⟩ | ⟨q1, q2⟩ | ⟨q1, q2⟩ | ⟨q1, q2⟩
  · have hM : Hid (turnM c by_ = turnedM c 32 126 by_) := Lib.hid (by rw [turnM, if_pos (by omega)])
    have ht := Lib.hid fun W => turned_any W c 32 126 by_ (by omega) q1 q2 (by omega) hb
    go_enter Tryd.func14, Tryd.ntmps14
    go_wp2_with (first | (go_at_call 27; refine hpr.out.mono ?_; rintro e w' ⟨rfl, hb'⟩) | (go_at_call 28; refine (ht.out _).mono ?_; rintro e w2 ⟨rfl, rfl⟩))
    go_ret2
    exact ⟨by rw [hM.out]; rfl, hb'⟩
  · have hM : Hid (turnM c by_ = turnedM c 160 2047 by_) := Lib.hid (by rw [turnM, if_neg (by omega), if_pos (by omega)])
    have ht := Lib.hid fun W => turned_any W c 160 2047 by_ (by omega) q1 q2 (by omega) hb
    go_enter Tryd.func14, Tryd.ntmps14
    go_wp2_with (first | (go_at_call 27; refine hpr.out.mono ?_; rintro e w' ⟨rfl, hb'⟩) | (go_at_call 28; refine (ht.out _).mono ?_; rintro e w2 ⟨rfl, rfl⟩))
    go_ret2
    exact ⟨by rw [hM.out]; rfl, hb'⟩
  · have hM : Hid (turnM c by_ = if turnedM c 2048 63487 by_ ≥ 55296 then turnedM c 2048 63487 by_ + 2048 else turnedM c 2048 63487 by_) := Lib.hid (by have e : (if 55296 < c then c - 2048 else c) = c := if_neg (by omega); rw [turnM, if_neg (by omega), if_neg (by omega), if_neg (by omega), e])
    have ht := Lib.hid fun W => turned_any W c 2048 63487 by_ (by omega) q1 (by omega) (by omega) hb
    have hbd := turnedM_bd c 2048 63487 by_ q1 (by omega)
    generalize turnedM c 2048 63487 by_ = V at *
    go_enter Tryd.func14, Tryd.ntmps14
    go_wp2_with (first | (go_at_call 27; refine hpr.out.mono ?_; rintro e w' ⟨rfl, hb'⟩) | (go_at_call 28; refine (ht.out _).mono ?_; rintro e w2 ⟨rfl, rfl⟩))
    · go_ret2
      exact ⟨by rw [hM.out, if_pos (by omega)]; rfl, hb'⟩
    · go_ret2
      exact ⟨by rw [hM.out, if_neg (by omega)]; rfl, hb'⟩
  · have hM : Hid (turnM c by_ = if turnedM (c - 2048) 2048 63487 by_ ≥ 55296 then turnedM (c - 2048) 2048 63487 by_ + 2048 else turnedM (c - 2048) 2048 63487 by_) := Lib.hid (by have e : (if 55296 < c then c - 2048 else c) = c - 2048 := if_pos (by omega); rw [turnM, if_neg (by omega), if_neg (by omega), if_neg (by omega), e])
    have ht := Lib.hid fun W => turned_any W (c - 2048) 2048 63487 by_ (by omega) (by omega) (by omega) (by omega) hb
    have hbd := turnedM_bd (c - 2048) 2048 63487 by_ (by omega) (by omega)
    generalize turnedM (c - 2048) 2048 63487 by_ = V at *
    go_enter Tryd.func14, Tryd.ntmps14
    go_wp2_with (first | (go_at_call 27; refine hpr.out.mono ?_; rintro e w' ⟨rfl, hb'⟩) | (go_at_call 28; refine (ht.out _).mono ?_; rintro e w2 ⟨rfl, rfl⟩))
    · go_ret2
      exact ⟨by rw [hM.out, if_pos (by omega)]; rfl, hb'⟩
    · go_ret2
      exact ⟨by rw [hM.out, if_neg (by omega)]; rfl, hb'⟩
  · have hM : Hid (turnM c by_ = turnedM c 65536 1114111 by_) := Lib.hid (by rw [turnM, if_neg (by omega), if_neg (by omega), if_pos (by omega)])
    have ht := Lib.hid fun W => turned_any W c 65536 1114111 by_ (by omega) q1 q2 (by omega) hb
    go_enter Tryd.func14, Tryd.ntmps14
    go_wp2_with (first | (go_at_call 27; refine hpr.out.mono ?_; rintro e w' ⟨rfl, hb'⟩) | (go_at_call 28; refine (ht.out _).mono ?_; rintro e w2 ⟨rfl, rfl⟩))
    go_ret2
    exact ⟨by rw [hM.out]; rfl, hb'⟩
end Go.Proofs.YtnogcpjfgnpbbaaDoor
