/- The contracts of whispererref01.Next, Put, whispererref08.Of, whispererref09.key. Conditions: none. -/
import Derived.Test.YtnogcpjfgnpbbaaDoorRefA
set_option linter.unusedSimpArgs false
set_option linter.unusedVariables false
namespace Go.Proofs.YtnogcpjfgnpbbaaDoor
open Go.RowKit

set_option maxRecDepth 100000 in
set_option maxHeartbeats 1000000 in
theorem rNext_any (w : World) (b off n c : Nat) (l : List UInt8) (h : Rd w (some ⟨b, off, none⟩) n c l) :
    Calls Tryd.prog 20 #[.slice (some ⟨b, off, none⟩) n c] w fun e w' => U3 (uNext l) e ∧ ∃ m, w' = w.drewN m := by
  match l, h with
  | [], h =>
    obtain rfl : n = 0 := by have := h.len; simpa using this.symm
    clear h
    go_enter Tryd.func20, Tryd.ntmps20
    go_wp2_with fail
    go_ret3
    exact ⟨rfl, 0, rfl⟩
  | x :: r, h =>
    have hx8 := b_lt x
    by_cases h0 : usize x.toNat = 0
    · have h0c := h.get0
      have hn : 0 < n := by have := h.len; simp at this; omega
      have hn0 : ((n : Int) == 0) = false := by simp; omega
      have hU : uNext (x :: r) = (0, 1, 8) := by rw [uNext, h0, if_pos rfl]
      have hsize := Lib.hid (rSize_any w x.toNat)
      rw [h0] at hsize
      rw [hU]
      clear h hU h0
      go_enter Tryd.func20, Tryd.ntmps20
      go_wp2_with (go_at_call 35; refine hsize.out.mono ?_; rintro e w' ⟨rfl, rfl⟩)
      go_ret3
      exact ⟨rfl, 0, rfl⟩
    · by_cases h1 : usize x.toNat = 1
      · have h0c := h.get0
        have hn : 0 < n := by have := h.len; simp at this; omega
        have hn0 : ((n : Int) == 0) = false := by simp; omega
        have hU : uNext (x :: r) = (x.toNat, 1, 0) := by rw [uNext, h1, if_neg (by omega), if_pos rfl]
        have hsize := Lib.hid (rSize_any w x.toNat)
        rw [h1] at hsize
        rw [hU]
        generalize x.toNat = X at *
        clear h hU h0 h1
        go_enter Tryd.func20, Tryd.ntmps20
        go_wp2_with (go_at_call 35; refine hsize.out.mono ?_; rintro e w' ⟨rfl, rfl⟩)
        go_ret3
        exact ⟨rfl, 0, rfl⟩
      · have h2 : usize x.toNat = 2 ∨ usize x.toNat = 3 ∨ usize x.toNat = 4 := by
          unfold usize at h0 h1 ⊢
          (repeat' split) <;> simp_all
        exact rNext_go w b off n c x r h _ h2 rfl

/-- how many bytes the document's Put has -/
def rlen (c : Int) : Nat := if c < 128 then 1 else if c < 2048 then 2 else if c < 65536 then 3 else 4
def LenRes (n : Nat) (w : World) (e : Ending) (w' : World) : Prop := ∃ A k, e = .returned (.slice A n k) ∧ Below w.heap.size w w'
set_option maxHeartbeats 1000000 in
theorem rPut_len (w : World) (c : Int) :
    Calls Tryd.prog 8 #[.int .i64 c] w fun e w' => LenRes (rlen c) w e w' := by
  unfold rlen
  by_cases h1 : c < 128
  · rw [if_pos h1]
    go_enter Tryd.func8, Tryd.ntmps8
    go_wp2
    go_ret
    exact ⟨_, _, rfl, (Below.refl _ _).alloc (Nat.le_refl _) _⟩
  · rw [if_neg h1]
    by_cases h2 : c < 2048
    · rw [if_pos h2]
      go_enter Tryd.func8, Tryd.ntmps8
      go_wp2
      go_ret
      exact ⟨_, _, rfl, (Below.refl _ _).alloc (Nat.le_refl _) _⟩
    · rw [if_neg h2]
      by_cases h3 : c < 65536
      · rw [if_pos h3]
        go_enter Tryd.func8, Tryd.ntmps8
        go_wp2
        go_ret
        exact ⟨_, _, rfl, (Below.refl _ _).alloc (Nat.le_refl _) _⟩
      · rw [if_neg h3]
        go_enter Tryd.func8, Tryd.ntmps8
        go_wp2
        go_ret
        exact ⟨_, _, rfl, (Below.refl _ _).alloc (Nat.le_refl _) _⟩

/-- the key of a character: its kind; the character, if it may be shown -/
def keyL : List (Int × Int) := [(13, 1), (10, 1), (8, 2), (127, 2), (2, 4), (6, 5), (1, 6), (5, 7), (21, 8), (11, 9), (12, 10), (3, 11), (4, 12)]
def kOf (c : Int) : Int × Int := if uprint c = true then (0, c) else ((keyL.lookup c).getD 15, 0)
def Key2 (p : Int × Int) (e : Ending) : Prop := e = .returned (.agg #[.int .i64 p.1, .int .i64 p.2])
theorem Key2.mk {p : Int × Int} {a b : Int} (h : p = (a, b)) : Key2 p (.returned (.agg #[.int .i64 a, .int .i64 b])) := by subst h; rfl

set_option maxRecDepth 100000 in
set_option maxHeartbeats 4000000 in
theorem rOf_any (w : World) (c : Int) :
    Calls Tryd.prog 21 #[.int .i64 c] w fun e w' => Key2 (kOf c) e ∧ Below w.heap.size w w' := by
  have hp := Lib.hid fun W => rPrintable_any W c
  by_cases hu : uprint c = true
  · have hk : kOf c = (0, c) := by rw [kOf, if_pos hu]
    rw [hu] at hp
    rw [hk]
    clear hu hk
    go_enter Tryd.func21, Tryd.ntmps21
    go_wp2_with (go_at_call 37; refine (hp.out _).mono ?_; rintro e w' ⟨rfl, rfl⟩)
    refine bodyPost_ret (v := .agg #[.int .i64 0, .int .i64 c]) ?_ rfl ?_
    · simp [results, Tryd.results21, go_sem]
    · exact ⟨rfl, by (repeat (first | exact Below.refl _ _ | assumption | refine Below.drew ?_ | refine Below.alloc ?_ ?_ _ | refine Below.setCell ?_ ?_ _)); all_goals first | omega | (simp; done) | (simp; omega)⟩
  · simp only [Bool.not_eq_true] at hu
    rw [hu] at hp
    have hk : kOf c = ((keyL.lookup c).getD 15, 0) := by rw [kOf, if_neg (by simp [hu])]
    rw [hk]
    clear hu hk
    by_cases hc : c = 13 ∨ c = 10 ∨ c = 8 ∨ c = 127 ∨ c = 2 ∨ c = 6 ∨ c = 1 ∨ c = 5 ∨ c = 21 ∨ c = 11 ∨ c = 12 ∨ c = 3 ∨ c = 4
    · rcases hc with rfl | rfl | rfl | rfl | rfl | rfl | rfl | rfl | rfl | rfl | rfl | rfl | rfl
      · go_enter Tryd.func21, Tryd.ntmps21
        go_wp2_with (go_at_call 37; refine (hp.out _).mono ?_; rintro e w' ⟨rfl, rfl⟩)
        refine bodyPost_ret (v := .agg #[.int .i64 1, .int .i64 0]) ?_ rfl ?_
        · simp [results, Tryd.results21, go_sem]
        · exact ⟨Key2.mk rfl, by (repeat (first | exact Below.refl _ _ | refine Below.alloc ?_ ?_ _ | refine Below.setCell ?_ ?_ _)); all_goals first | omega | (simp; done) | (simp; omega)⟩
      · go_enter Tryd.func21, Tryd.ntmps21
        go_wp2_with (go_at_call 37; refine (hp.out _).mono ?_; rintro e w' ⟨rfl, rfl⟩)
        refine bodyPost_ret (v := .agg #[.int .i64 1, .int .i64 0]) ?_ rfl ?_
        · simp [results, Tryd.results21, go_sem]
        · exact ⟨Key2.mk rfl, by (repeat (first | exact Below.refl _ _ | refine Below.alloc ?_ ?_ _ | refine Below.setCell ?_ ?_ _)); all_goals first | omega | (simp; done) | (simp; omega)⟩
      · go_enter Tryd.func21, Tryd.ntmps21
        go_wp2_with (go_at_call 37; refine (hp.out _).mono ?_; rintro e w' ⟨rfl, rfl⟩)
        refine bodyPost_ret (v := .agg #[.int .i64 2, .int .i64 0]) ?_ rfl ?_
        · simp [results, Tryd.results21, go_sem]
        · exact ⟨Key2.mk rfl, by (repeat (first | exact Below.refl _ _ | refine Below.alloc ?_ ?_ _ | refine Below.setCell ?_ ?_ _)); all_goals first | omega | (simp; done) | (simp; omega)⟩
      · go_enter Tryd.func21, Tryd.ntmps21
        go_wp2_with (go_at_call 37; refine (hp.out _).mono ?_; rintro e w' ⟨rfl, rfl⟩)
        refine bodyPost_ret (v := .agg #[.int .i64 2, .int .i64 0]) ?_ rfl ?_
        · simp [results, Tryd.results21, go_sem]
        · exact ⟨Key2.mk rfl, by (repeat (first | exact Below.refl _ _ | refine Below.alloc ?_ ?_ _ | refine Below.setCell ?_ ?_ _)); all_goals first | omega | (simp; done) | (simp; omega)⟩
      · go_enter Tryd.func21, Tryd.ntmps21
        go_wp2_with (go_at_call 37; refine (hp.out _).mono ?_; rintro e w' ⟨rfl, rfl⟩)
        refine bodyPost_ret (v := .agg #[.int .i64 4, .int .i64 0]) ?_ rfl ?_
        · simp [results, Tryd.results21, go_sem]
        · exact ⟨Key2.mk rfl, by (repeat (first | exact Below.refl _ _ | refine Below.alloc ?_ ?_ _ | refine Below.setCell ?_ ?_ _)); all_goals first | omega | (simp; done) | (simp; omega)⟩
      · go_enter Tryd.func21, Tryd.ntmps21
        go_wp2_with (go_at_call 37; refine (hp.out _).mono ?_; rintro e w' ⟨rfl, rfl⟩)
        refine bodyPost_ret (v := .agg #[.int .i64 5, .int .i64 0]) ?_ rfl ?_
        · simp [results, Tryd.results21, go_sem]
        · exact ⟨Key2.mk rfl, by (repeat (first | exact Below.refl _ _ | refine Below.alloc ?_ ?_ _ | refine Below.setCell ?_ ?_ _)); all_goals first | omega | (simp; done) | (simp; omega)⟩
      · go_enter Tryd.func21, Tryd.ntmps21
        go_wp2_with (go_at_call 37; refine (hp.out _).mono ?_; rintro e w' ⟨rfl, rfl⟩)
        refine bodyPost_ret (v := .agg #[.int .i64 6, .int .i64 0]) ?_ rfl ?_
        · simp [results, Tryd.results21, go_sem]
        · exact ⟨Key2.mk rfl, by (repeat (first | exact Below.refl _ _ | refine Below.alloc ?_ ?_ _ | refine Below.setCell ?_ ?_ _)); all_goals first | omega | (simp; done) | (simp; omega)⟩
      · go_enter Tryd.func21, Tryd.ntmps21
        go_wp2_with (go_at_call 37; refine (hp.out _).mono ?_; rintro e w' ⟨rfl, rfl⟩)
        refine bodyPost_ret (v := .agg #[.int .i64 7, .int .i64 0]) ?_ rfl ?_
        · simp [results, Tryd.results21, go_sem]
        · exact ⟨Key2.mk rfl, by (repeat (first | exact Below.refl _ _ | refine Below.alloc ?_ ?_ _ | refine Below.setCell ?_ ?_ _)); all_goals first | omega | (simp; done) | (simp; omega)⟩
      · go_enter Tryd.func21, Tryd.ntmps21
        go_wp2_with (go_at_call 37; refine (hp.out _).mono ?_; rintro e w' ⟨rfl, rfl⟩)
        refine bodyPost_ret (v := .agg #[.int .i64 8, .int .i64 0]) ?_ rfl ?_
        · simp [results, Tryd.results21, go_sem]
        · exact ⟨Key2.mk rfl, by (repeat (first | exact Below.refl _ _ | refine Below.alloc ?_ ?_ _ | refine Below.setCell ?_ ?_ _)); all_goals first | omega | (simp; done) | (simp; omega)⟩
      · go_enter Tryd.func21, Tryd.ntmps21
        go_wp2_with (go_at_call 37; refine (hp.out _).mono ?_; rintro e w' ⟨rfl, rfl⟩)
        refine bodyPost_ret (v := .agg #[.int .i64 9, .int .i64 0]) ?_ rfl ?_
        · simp [results, Tryd.results21, go_sem]
        · exact ⟨Key2.mk rfl, by (repeat (first | exact Below.refl _ _ | refine Below.alloc ?_ ?_ _ | refine Below.setCell ?_ ?_ _)); all_goals first | omega | (simp; done) | (simp; omega)⟩
      · go_enter Tryd.func21, Tryd.ntmps21
        go_wp2_with (go_at_call 37; refine (hp.out _).mono ?_; rintro e w' ⟨rfl, rfl⟩)
        refine bodyPost_ret (v := .agg #[.int .i64 10, .int .i64 0]) ?_ rfl ?_
        · simp [results, Tryd.results21, go_sem]
        · exact ⟨Key2.mk rfl, by (repeat (first | exact Below.refl _ _ | refine Below.alloc ?_ ?_ _ | refine Below.setCell ?_ ?_ _)); all_goals first | omega | (simp; done) | (simp; omega)⟩
      · go_enter Tryd.func21, Tryd.ntmps21
        go_wp2_with (go_at_call 37; refine (hp.out _).mono ?_; rintro e w' ⟨rfl, rfl⟩)
        refine bodyPost_ret (v := .agg #[.int .i64 11, .int .i64 0]) ?_ rfl ?_
        · simp [results, Tryd.results21, go_sem]
        · exact ⟨Key2.mk rfl, by (repeat (first | exact Below.refl _ _ | refine Below.alloc ?_ ?_ _ | refine Below.setCell ?_ ?_ _)); all_goals first | omega | (simp; done) | (simp; omega)⟩
      · go_enter Tryd.func21, Tryd.ntmps21
        go_wp2_with (go_at_call 37; refine (hp.out _).mono ?_; rintro e w' ⟨rfl, rfl⟩)
        refine bodyPost_ret (v := .agg #[.int .i64 12, .int .i64 0]) ?_ rfl ?_
        · simp [results, Tryd.results21, go_sem]
        · exact ⟨Key2.mk rfl, by (repeat (first | exact Below.refl _ _ | refine Below.alloc ?_ ?_ _ | refine Below.setCell ?_ ?_ _)); all_goals first | omega | (simp; done) | (simp; omega)⟩
    · have hl : keyL.lookup c = none := by
        simp only [keyL, List.lookup_cons, List.lookup_nil]
        simp only [show (c == 13) = false by simp; omega, show (c == 10) = false by simp; omega, show (c == 8) = false by simp; omega, show (c == 127) = false by simp; omega, show (c == 2) = false by simp; omega, show (c == 6) = false by simp; omega, show (c == 1) = false by simp; omega, show (c == 5) = false by simp; omega, show (c == 21) = false by simp; omega, show (c == 11) = false by simp; omega, show (c == 12) = false by simp; omega, show (c == 3) = false by simp; omega, show (c == 4) = false by simp; omega]
      rw [hl]
      have q1 : (c == 13) = false := by simp; omega
      have q2 : (c == 10) = false := by simp; omega
      have q3 : (c == 8) = false := by simp; omega
      have q4 : (c == 127) = false := by simp; omega
      have q5 : (c == 2) = false := by simp; omega
      have q6 : (c == 6) = false := by simp; omega
      have q7 : (c == 1) = false := by simp; omega
      have q8 : (c == 5) = false := by simp; omega
      have q9 : (c == 21) = false := by simp; omega
      have q10 : (c == 11) = false := by simp; omega
      have q11 : (c == 12) = false := by simp; omega
      have q12 : (c == 3) = false := by simp; omega
      have q13 : (c == 4) = false := by simp; omega
      clear hc hl
      go_enter Tryd.func21, Tryd.ntmps21
      go_wp2_with (go_at_call 37; refine (hp.out _).mono ?_; rintro e w' ⟨rfl, rfl⟩)
      refine bodyPost_ret (v := .agg #[.int .i64 15, .int .i64 0]) ?_ rfl ?_
      · simp [results, Tryd.results21, go_sem]
      · exact ⟨rfl, by (repeat (first | exact Below.refl _ _ | assumption | refine Below.drew ?_ | refine Below.alloc ?_ ?_ _ | refine Below.setCell ?_ ?_ _)); all_goals first | omega | (simp; done) | (simp; omega)⟩
end Go.Proofs.YtnogcpjfgnpbbaaDoor
