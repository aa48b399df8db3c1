/- The contracts of whispererref01 (characters in bytes). Conditions: none. -/
import Derived.Test.YtnogcpjfgnpbbaaDoorUtf
import Derived.Deep.QuietTactic
import Derived.BigQuiet
set_option linter.unusedSimpArgs false
set_option linter.unusedVariables false
namespace Go.Proofs.YtnogcpjfgnpbbaaDoor
open Go.RowKit

set_option maxRecDepth 100000 in
set_option maxHeartbeats 1000000 in
theorem rSize_any (w : World) (a : Nat) :
    Calls Tryd.prog 35 #[.int .u8 a] w fun e w' => e = .returned (.int .i64 (usize a)) ∧ w = w' := by
  unfold usize
  by_cases h1 : a < 128
  · rw [if_pos h1]
    go_enter Tryd.func35, Tryd.ntmps35
    go_wp2
    go_ret
    exact ⟨rfl, rfl⟩
  · rw [if_neg h1]
    by_cases h2 : 194 ≤ a ∧ a ≤ 223
    · rw [if_pos h2]
      go_enter Tryd.func35, Tryd.ntmps35
      go_wp2
      go_ret
      exact ⟨rfl, rfl⟩
    · rw [if_neg h2]
      by_cases h3 : 224 ≤ a ∧ a ≤ 239
      · rw [if_pos h3]
        have h4 : 224 ≤ (a : Int) := by omega
        have h5 : (a : Int) ≤ 239 := by omega
        clear h1 h2 h3
        go_enter Tryd.func35, Tryd.ntmps35
        go_wp2
        go_ret
        exact ⟨rfl, rfl⟩
      · rw [if_neg h3]
        by_cases h4 : 240 ≤ a ∧ a ≤ 244
        · rw [if_pos h4]
          have h4 : 240 ≤ (a : Int) := by omega
          have h5 : (a : Int) ≤ 244 := by omega
          clear h1 h2 h3
          go_enter Tryd.func35, Tryd.ntmps35
          go_wp2
          go_ret
          exact ⟨rfl, rfl⟩
        · rw [if_neg h4]
          go_enter Tryd.func35, Tryd.ntmps35
          go_wp2
          all_goals first | (exfalso; omega) | (go_ret; exact ⟨rfl, rfl⟩)

set_option maxHeartbeats 1000000 in
theorem rSecond_any (w : World) (a c : Nat) :
    Calls Tryd.prog 36 #[.int .u8 a, .int .u8 c] w fun e w' => e = .returned (.bool (usec a c)) ∧ w = w' := by
  unfold usec
  by_cases h1 : a = 224
  · rw [if_pos h1]; subst h1
    go_enter Tryd.func36, Tryd.ntmps36
    go_wp2
    all_goals (go_ret; refine ⟨ret_b ?_, rfl⟩; first | (simp; done) | (simp; omega) | (rw [Bool.eq_iff_iff]; simp only [Bool.true_and, Bool.and_true, Bool.or_eq_true, Bool.and_eq_true, Bool.not_eq_true', decide_eq_true_eq, decide_eq_false_iff_not, Bool.false_eq_true, true_iff, false_iff, iff_true, iff_false]; omega))
  · rw [if_neg h1]
    by_cases h2 : a = 237
    · rw [if_pos h2]; subst h2
      go_enter Tryd.func36, Tryd.ntmps36
      go_wp2
      all_goals (go_ret; refine ⟨ret_b ?_, rfl⟩; first | (simp; done) | (simp; omega) | (rw [Bool.eq_iff_iff]; simp only [Bool.true_and, Bool.and_true, Bool.or_eq_true, Bool.and_eq_true, Bool.not_eq_true', decide_eq_true_eq, decide_eq_false_iff_not, Bool.false_eq_true, true_iff, false_iff, iff_true, iff_false]; omega))
    · rw [if_neg h2]
      by_cases h3 : a = 240
      · rw [if_pos h3]; subst h3
        go_enter Tryd.func36, Tryd.ntmps36
        go_wp2
        all_goals (go_ret; refine ⟨ret_b ?_, rfl⟩; first | (simp; done) | (simp; omega) | (rw [Bool.eq_iff_iff]; simp only [Bool.true_and, Bool.and_true, Bool.or_eq_true, Bool.and_eq_true, Bool.not_eq_true', decide_eq_true_eq, decide_eq_false_iff_not, Bool.false_eq_true, true_iff, false_iff, iff_true, iff_false]; omega))
      · rw [if_neg h3]
        by_cases h4 : a = 244
        · rw [if_pos h4]; subst h4
          go_enter Tryd.func36, Tryd.ntmps36
          go_wp2
          all_goals (go_ret; refine ⟨ret_b ?_, rfl⟩; first | (simp; done) | (simp; omega) | (rw [Bool.eq_iff_iff]; simp only [Bool.true_and, Bool.and_true, Bool.or_eq_true, Bool.and_eq_true, Bool.not_eq_true', decide_eq_true_eq, decide_eq_false_iff_not, Bool.false_eq_true, true_iff, false_iff, iff_true, iff_false]; omega))
        · rw [if_neg h4]
          have g1 : ((a : Int) == 224) = false := by simp; omega
          have g2 : ((a : Int) == 237) = false := by simp; omega
          have g3 : ((a : Int) == 240) = false := by simp; omega
          have g4 : ((a : Int) == 244) = false := by simp; omega
          clear h1 h2 h3 h4
          go_enter Tryd.func36, Tryd.ntmps36
          go_wp2
          all_goals (go_ret; refine ⟨ret_b ?_, rfl⟩; first | (simp; done) | (simp; omega) | (rw [Bool.eq_iff_iff]; simp only [Bool.true_and, Bool.and_true, Bool.or_eq_true, Bool.and_eq_true, Bool.not_eq_true', decide_eq_true_eq, decide_eq_false_iff_not, Bool.false_eq_true, true_iff, false_iff, iff_true, iff_false]; omega))

set_option maxHeartbeats 1000000 in
theorem rFine_any (w : World) (c : Int) :
    Calls Tryd.prog 46 #[.int .i64 c] w fun e w' => e = .returned (.bool (ufine c)) ∧ w = w' := by
  unfold ufine
  by_cases h1 : 0 ≤ c <;> by_cases h2 : c ≤ 1114111 <;> by_cases h3 : 55296 ≤ c <;> by_cases h4 : c ≤ 57343
  all_goals
    (go_enter Tryd.func46, Tryd.ntmps46
     go_wp2
     all_goals (go_ret; refine ⟨ret_b ?_, rfl⟩; first | (simp; done) | (simp; omega) | (rw [Bool.eq_iff_iff]; simp only [Bool.true_and, Bool.and_true, Bool.or_eq_true, Bool.and_eq_true, Bool.not_eq_true', decide_eq_true_eq, decide_eq_false_iff_not, Bool.false_eq_true, true_iff, false_iff, iff_true, iff_false]; omega)))

set_option maxHeartbeats 1000000 in
theorem rPrintable_any (w : World) (c : Int) :
    Calls Tryd.prog 37 #[.int .i64 c] w fun e w' => e = .returned (.bool (uprint c)) ∧ w = w' := by
  have hf := Lib.hid (rFine_any w c)
  unfold uprint
  generalize ufine c = F at hf
  cases F
  · go_enter Tryd.func37, Tryd.ntmps37
    go_wp2_with (go_at_call 46; refine hf.out.mono ?_; rintro e w' ⟨rfl, rfl⟩)
    all_goals (go_ret; exact ⟨rfl, rfl⟩)
  · by_cases h1 : 32 ≤ c <;> by_cases h2 : 127 ≤ c <;> by_cases h3 : c ≤ 159
    all_goals
      (go_enter Tryd.func37, Tryd.ntmps37
       go_wp2_with (go_at_call 46; refine hf.out.mono ?_; rintro e w' ⟨rfl, rfl⟩)
       all_goals (go_ret; refine ⟨ret_b ?_, rfl⟩; first | (simp; done) | (simp; omega) | (rw [Bool.eq_iff_iff]; simp only [Bool.true_and, Bool.and_true, Bool.or_eq_true, Bool.and_eq_true, Bool.not_eq_true', decide_eq_true_eq, decide_eq_false_iff_not, Bool.false_eq_true, true_iff, false_iff, iff_true, iff_false]; omega)))

theorem usec_lt {a c : Nat} (h : usec a c = true) : 128 ≤ c ∧ c ≤ 191 := by
  unfold usec at h
  (repeat' split at h) <;> (simp at h; omega)

def bnd (k C : Nat) : Prop := (k = 1 → C ≤ 31) ∧ (k = 2 → C ≤ 2047) ∧ (k = 3 → C ≤ 131071) ∧ (k = 4 → C ≤ 8388607)

def U3 (p : Nat × Nat × Nat) (e : Ending) : Prop := e = .returned (.tuple #[.int .i64 p.1, .int .i64 p.2.1, .int .i64 p.2.2])
theorem U3.mk {p : Nat × Nat × Nat} {a b c : Nat} (h : p = (a, b, c)) : U3 p (.returned (.tuple #[.int .i64 a, .int .i64 b, .int .i64 c])) := by subst h; rfl

set_option maxRecDepth 100000 in
set_option maxHeartbeats 4000000 in
theorem rNext_go (w : World) (b off n c : Nat) (x : UInt8) (r : List UInt8) (h : Rd w (some ⟨b, off, none⟩) n c (x :: r)) (sz : Nat) (hsz : sz = 2 ∨ sz = 3 ∨ sz = 4) (hu : usize x.toNat = sz) :
    Calls Tryd.prog 20 #[.slice (some ⟨b, off, none⟩) n c] w fun e w' => U3 (uNext (x :: r)) e ∧ ∃ m, w' = w.drewN m := by
  have h0 := h.get0
  have hlen := h.len; have hle := h.le; have hbig := h.big
  have hx8 := b_lt x
  have hn : 0 < n := by simp at hlen; omega
  have hn0 : ((n : Int) == 0) = false := by simp; omega
  obtain ⟨C0, hC0⟩ : ∃ C0, C0 = (if sz = 3 then x.toNat % 16 else if sz = 4 then x.toNat % 8 else x.toNat % 32) := ⟨_, rfl⟩
  have hS : Hid (uNext (x :: r) = ugo x.toNat (sz - 1) 1 C0 r) := by
    have := uN_go x r sz hu (by omega)
    rw [← hC0] at this; exact this
  have hb0 : C0 ≤ 31 := by rw [hC0]; split <;> (try split) <;> omega
  have hsize := Lib.hid (rSize_any w x.toNat)
  rw [hu] at hsize
  generalize uNext (x :: r) = U at *
  have hcell : Hid (∀ (k : Nat) (y : UInt8), 1 ≤ k → r[k - 1]? = some y → w.cell? ⟨b, off + k, none⟩ = some (.int .u8 y.toNat)) := by
    intro k y hk hy
    obtain ⟨j, rfl⟩ : ∃ j, k = j + 1 := ⟨k - 1, by omega⟩
    exact h.cell b off rfl (j + 1) y (by simpa using hy)
  have hr : Hid (r.length + 1 = n) := Lib.hid (by simpa using hlen)
  clear h hlen hu
  have hsz1 : ((sz : Int) == 0) = false := by simp; omega
  have hsz2 : ((sz : Int) == 1) = false := by simp; omega
  have hstart : Hid (∃ rem, 1 + rem = sz ∧ U = ugo x.toNat rem 1 C0 (r.drop (1 - 1)) ∧ bnd 1 C0) := ⟨sz - 1, by omega, by simpa using hS.out, by unfold bnd; omega⟩
  clear hS
  rcases hsz with rfl | rfl | rfl
  all_goals
    (simp only [if_true, if_false, Nat.reduceEqDiff] at hC0
     have hC0' := Lib.hid hC0
     clear hsz1 hsz2 hC0
     go_enter Tryd.func20, Tryd.ntmps20
     go_wp2_with (go_at_call 35; refine hsize.out.mono ?_; rintro e w' ⟨rfl, rfl⟩)
     go_loopw [6, 7] (fun cv i wr => ∃ k C rem : Nat, cv = .int .i64 C ∧ i = .int .i64 k ∧ 1 ≤ k ∧ k ≤ n ∧ Hid (k + rem = _) ∧ Hid (U = ugo x.toNat rem k C (r.drop (k - 1))) ∧ Hid (bnd k C) ∧ Hid (∃ m, wr = w.drewN m)) (fun _ i _ => 4 - (intOf i).toNat)
     case atStart =>
       obtain ⟨rem, e1, e2, e3⟩ := hstart.out
       exact ⟨1, C0, rem, by rw [hC0'.out]; rfl, rfl, by omega, by omega, e1, e2, e3, ⟨0, rfl⟩⟩
     case round =>
       obtain ⟨k, C, rem, rfl, rfl, h1, h2, hrem, hR, hb, hW⟩ := hrel
       have hcw : Hid (∀ a, wr.cell? a = w.cell? a) := Lib.hid (by obtain ⟨m, rfl⟩ := hW.out; exact fun _ => rfl)
       have h0' := (hcw.out _).trans h0
       have hb' := hb.out
       unfold bnd at hb'
       cases rem with
       | zero =>
         have hk := hrem.out
         simp only [Nat.add_zero] at hk
         subst hk
         have hR' : Hid (U = (C, _, 0)) := hR.out.trans rfl
         clear hR hrem hb hb'
         go_wp2
         go_ret3
         exact ⟨U3.mk hR'.out, hW.out⟩
       | succ rem =>
         have hks := Nat.lt_of_lt_of_eq (show k < k + (rem + 1) by omega) hrem.out
         cases hd : r.drop (k - 1) with
         | nil =>
           have hkn : k = n := by have := List.drop_eq_nil_iff.1 hd; have := hr.out; omega
           have hR' : Hid (U = (0, k, 7)) := hR.out.trans (by rw [hd]; rfl)
           have hkq : ((k : Int) == n) = true := by simp [hkn]
           clear hR hd hkn hb hb' hrem
           go_wp2
           go_ret3
           exact ⟨U3.mk hR'.out, hW.out⟩
         | cons y q =>
           have hyk : r[k - 1]? = some y := by rw [← List.head?_drop, hd]; rfl
           have hkn : k < n := by have := (List.getElem?_eq_some_iff.1 hyk).1; have := hr.out; omega
           have hq : Hid (r.drop (k + 1 - 1) = q) := Lib.hid (by rw [show k + 1 - 1 = (k - 1) + 1 by omega, ← List.drop_drop, hd]; rfl)
           have hc := (hcw.out _).trans (hcell.out k y h1 hyk)
           have hy8 := b_lt y
           have hkq : ((k : Int) == n) = false := by simp; omega
           have hR1 : Hid (U = ugo x.toNat (rem + 1) k C (y :: q)) := hR.out.trans (by rw [hd])
           have hsec : Hid (∀ W : World, Calls Tryd.prog 36 #[.int .u8 x.toNat, .int .u8 y.toNat] W fun e w' => e = .returned (.bool (usec x.toNat y.toNat)) ∧ w' = W) :=
             fun W => (rSecond_any W x.toNat y.toNat).mono fun _ _ h => ⟨h.1, h.2.symm⟩
           clear hR hd hyk hb
           have hadd : k + 1 + rem = k + (rem + 1) := by omega
           have hrem' : Hid (k + 1 + rem = _) := hadd.trans hrem.out
           clear hadd hrem
           by_cases hk1 : k = 1
           · subst hk1
             have hC31 := hb'.1 rfl
             have hn1 : (1 : Int) < n := by omega
             clear hb'
             cases hse : usec x.toNat y.toNat with
             | false =>
               rw [hse] at hsec
               have hR' : Hid (U = (0, 1, 8)) := hR1.out.trans (ugo_bad1 _ _ _ _ _ hse)
               clear hR1 hse hq
               go_wp2
               go_quiet ((go_at_call 36; exact Calls.quiet_of_same (hsec.out _)))
               go_wp2
               go_ret3
               exact ⟨U3.mk hR'.out, by obtain ⟨m, rfl⟩ := hW.out; exact ⟨_, World.drewN_drewN _ _ _⟩⟩
             | true =>
               rw [hse] at hsec
               obtain ⟨hy1, hy2⟩ := usec_lt hse
               have hR' : Hid (U = ugo x.toNat rem (1 + 1) (64 * C + y.toNat - 128) (r.drop (1 + 1 - 1))) := hR1.out.trans ((ugo_ok1 _ _ _ _ _ hse).trans (by rw [hq.out]))
               clear hR1 hse hq
               have hbn : Hid (bnd (1 + 1) (64 * C + y.toNat - 128)) := by unfold Hid bnd; omega
               generalize y.toNat = Y at *
               go_wp2
               go_quiet ((go_at_call 36; exact Calls.quiet_of_same (hsec.out _)))
               go_wp2
               go_roundw
               case rel => exact ⟨1 + 1, 64 * C + Y - 128, rem, by go_num, by go_num, by omega, by omega, hrem', hR', hbn, Lib.hid (by obtain ⟨m, rfl⟩ := hW.out; exact ⟨_, World.drewN_drewN _ _ _⟩)⟩
               case measure => simp [intOf]
           · try (exfalso; omega)
             all_goals
               (have hk2 : ((k : Int) == 1) = false := by simp; omega
                have hk3 : (1 : Int) < k := by omega
                have hk4 : decide (1 < k) = true := by simp; omega
                have hk6 : decide ((1 : Int) < k) = true := by simp; omega
                have hk5 : (0 : Int) ≤ k := by omega
                have hkn' : (k : Int) < n := by omega
                have hCb : C ≤ 131071 := by omega
                by_cases hz : y.toNat < 128 ∨ 191 < y.toNat
                · have hR' : Hid (U = (0, k, 8)) := hR1.out.trans (ugo_bad _ _ _ _ _ _ (by omega) hz)
                  clear hR1 hq hsec hb' hk1
                  generalize y.toNat = Y at *
                  by_cases hz1 : Y < 128
                  · have hz2 : decide ((Y : Int) < 128) = true := by simp; omega
                    clear hz hz1
                    go_wp2
                    go_quiet (fail)
                    go_wp2
                    go_ret3
                    exact ⟨U3.mk hR'.out, by obtain ⟨m, rfl⟩ := hW.out; exact ⟨_, World.drewN_drewN _ _ _⟩⟩
                  · have hz2 : decide ((Y : Int) < 128) = false := by simp; omega
                    have hz3 : decide ((191 : Int) < Y) = true := by simp; omega
                    clear hz hz1
                    go_wp2
                    go_quiet (fail)
                    go_wp2
                    go_ret3
                    exact ⟨U3.mk hR'.out, by obtain ⟨m, rfl⟩ := hW.out; exact ⟨_, World.drewN_drewN _ _ _⟩⟩
                · have hR' : Hid (U = ugo x.toNat rem (k + 1) (64 * C + y.toNat - 128) (r.drop (k + 1 - 1))) := hR1.out.trans ((ugo_ok _ _ _ _ _ _ (by omega) hz).trans (by rw [hq.out]))
                  have hbn : Hid (bnd (k + 1) (64 * C + y.toNat - 128)) := by unfold Hid bnd; omega
                  clear hR1 hq hsec hb' hk1
                  generalize y.toNat = Y at *
                  have hz2 : decide ((Y : Int) < 128) = false := by simp; omega
                  have hz3 : decide ((191 : Int) < Y) = false := by simp; omega
                  have hz4 : 128 ≤ Y := by omega
                  clear hz
                  go_wp2
                  go_quiet (fail)
                  go_wp2
                  go_roundw
                  case rel => exact ⟨k + 1, 64 * C + Y - 128, rem, by go_num, by go_num, by omega, by omega, hrem', hR', hbn, Lib.hid (by obtain ⟨m, rfl⟩ := hW.out; exact ⟨_, World.drewN_drewN _ _ _⟩)⟩
                  case measure => simp [intOf]; omega))
end Go.Proofs.YtnogcpjfgnpbbaaDoor
