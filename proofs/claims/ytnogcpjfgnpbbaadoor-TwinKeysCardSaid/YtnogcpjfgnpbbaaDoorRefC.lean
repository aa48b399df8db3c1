/- The contracts of whispererref09 (escape sequences). Conditions: none. -/
import Derived.Test.YtnogcpjfgnpbbaaDoorRefB
import Derived.Test.YtnogcpjfgnpbbaaDoorEsc
set_option linter.unusedSimpArgs false
set_option linter.unusedVariables false
namespace Go.Proofs.YtnogcpjfgnpbbaaDoor
open Go.RowKit

theorem tl_beq (l x : List UInt8) (b : Bool) (h : (l == x) = b) : ((⟨l.toArray⟩ : ByteArray).toList == x) = b := by rw [Lib.toList_data]; exact h

section
variable (w : World) (S : ByteArray)
set_option maxHeartbeats 1000000 in
theorem rKey_0 (q0 : (S.toList == [91, 67]) = true) : Calls Tryd.prog 34 #[.string S] w fun e w' => Key2 (5, 0) e ∧ Below w.heap.size w w' := by
  go_enter Tryd.func34, Tryd.ntmps34
  go_wp2
  refine bodyPost_ret (v := .agg #[.int .i64 5, .int .i64 0]) ?_ rfl ?_
  · simp [results, Tryd.results34, go_sem]
  · exact ⟨rfl, by (repeat (first | exact Below.refl _ _ | refine Below.alloc ?_ ?_ _ | refine Below.setCell ?_ ?_ _)); all_goals first | omega | (simp; done) | (simp; omega)⟩
set_option maxHeartbeats 1000000 in
theorem rKey_1 (q0 : (S.toList == [91, 67]) = false) (q1 : (S.toList == [79, 67]) = true) : Calls Tryd.prog 34 #[.string S] w fun e w' => Key2 (5, 0) e ∧ Below w.heap.size w w' := by
  go_enter Tryd.func34, Tryd.ntmps34
  go_wp2
  refine bodyPost_ret (v := .agg #[.int .i64 5, .int .i64 0]) ?_ rfl ?_
  · simp [results, Tryd.results34, go_sem]
  · exact ⟨rfl, by (repeat (first | exact Below.refl _ _ | refine Below.alloc ?_ ?_ _ | refine Below.setCell ?_ ?_ _)); all_goals first | omega | (simp; done) | (simp; omega)⟩
set_option maxHeartbeats 1000000 in
theorem rKey_2 (q0 : (S.toList == [91, 67]) = false) (q1 : (S.toList == [79, 67]) = false) (q2 : (S.toList == [91, 68]) = true) : Calls Tryd.prog 34 #[.string S] w fun e w' => Key2 (4, 0) e ∧ Below w.heap.size w w' := by
  go_enter Tryd.func34, Tryd.ntmps34
  go_wp2
  refine bodyPost_ret (v := .agg #[.int .i64 4, .int .i64 0]) ?_ rfl ?_
  · simp [results, Tryd.results34, go_sem]
  · exact ⟨rfl, by (repeat (first | exact Below.refl _ _ | refine Below.alloc ?_ ?_ _ | refine Below.setCell ?_ ?_ _)); all_goals first | omega | (simp; done) | (simp; omega)⟩
set_option maxHeartbeats 1000000 in
theorem rKey_3 (q0 : (S.toList == [91, 67]) = false) (q1 : (S.toList == [79, 67]) = false) (q2 : (S.toList == [91, 68]) = false) (q3 : (S.toList == [79, 68]) = true) : Calls Tryd.prog 34 #[.string S] w fun e w' => Key2 (4, 0) e ∧ Below w.heap.size w w' := by
  go_enter Tryd.func34, Tryd.ntmps34
  go_wp2
  refine bodyPost_ret (v := .agg #[.int .i64 4, .int .i64 0]) ?_ rfl ?_
  · simp [results, Tryd.results34, go_sem]
  · exact ⟨rfl, by (repeat (first | exact Below.refl _ _ | refine Below.alloc ?_ ?_ _ | refine Below.setCell ?_ ?_ _)); all_goals first | omega | (simp; done) | (simp; omega)⟩
set_option maxHeartbeats 1000000 in
theorem rKey_4 (q0 : (S.toList == [91, 67]) = false) (q1 : (S.toList == [79, 67]) = false) (q2 : (S.toList == [91, 68]) = false) (q3 : (S.toList == [79, 68]) = false) (q4 : (S.toList == [91, 72]) = true) : Calls Tryd.prog 34 #[.string S] w fun e w' => Key2 (6, 0) e ∧ Below w.heap.size w w' := by
  go_enter Tryd.func34, Tryd.ntmps34
  go_wp2
  refine bodyPost_ret (v := .agg #[.int .i64 6, .int .i64 0]) ?_ rfl ?_
  · simp [results, Tryd.results34, go_sem]
  · exact ⟨rfl, by (repeat (first | exact Below.refl _ _ | refine Below.alloc ?_ ?_ _ | refine Below.setCell ?_ ?_ _)); all_goals first | omega | (simp; done) | (simp; omega)⟩
set_option maxHeartbeats 1000000 in
theorem rKey_5 (q0 : (S.toList == [91, 67]) = false) (q1 : (S.toList == [79, 67]) = false) (q2 : (S.toList == [91, 68]) = false) (q3 : (S.toList == [79, 68]) = false) (q4 : (S.toList == [91, 72]) = false) (q5 : (S.toList == [79, 72]) = true) : Calls Tryd.prog 34 #[.string S] w fun e w' => Key2 (6, 0) e ∧ Below w.heap.size w w' := by
  go_enter Tryd.func34, Tryd.ntmps34
  go_wp2
  refine bodyPost_ret (v := .agg #[.int .i64 6, .int .i64 0]) ?_ rfl ?_
  · simp [results, Tryd.results34, go_sem]
  · exact ⟨rfl, by (repeat (first | exact Below.refl _ _ | refine Below.alloc ?_ ?_ _ | refine Below.setCell ?_ ?_ _)); all_goals first | omega | (simp; done) | (simp; omega)⟩
set_option maxHeartbeats 1000000 in
theorem rKey_6 (q0 : (S.toList == [91, 67]) = false) (q1 : (S.toList == [79, 67]) = false) (q2 : (S.toList == [91, 68]) = false) (q3 : (S.toList == [79, 68]) = false) (q4 : (S.toList == [91, 72]) = false) (q5 : (S.toList == [79, 72]) = false) (q6 : (S.toList == [91, 49, 126]) = true) : Calls Tryd.prog 34 #[.string S] w fun e w' => Key2 (6, 0) e ∧ Below w.heap.size w w' := by
  go_enter Tryd.func34, Tryd.ntmps34
  go_wp2
  refine bodyPost_ret (v := .agg #[.int .i64 6, .int .i64 0]) ?_ rfl ?_
  · simp [results, Tryd.results34, go_sem]
  · exact ⟨rfl, by (repeat (first | exact Below.refl _ _ | refine Below.alloc ?_ ?_ _ | refine Below.setCell ?_ ?_ _)); all_goals first | omega | (simp; done) | (simp; omega)⟩
set_option maxHeartbeats 1000000 in
theorem rKey_7 (q0 : (S.toList == [91, 67]) = false) (q1 : (S.toList == [79, 67]) = false) (q2 : (S.toList == [91, 68]) = false) (q3 : (S.toList == [79, 68]) = false) (q4 : (S.toList == [91, 72]) = false) (q5 : (S.toList == [79, 72]) = false) (q6 : (S.toList == [91, 49, 126]) = false) (q7 : (S.toList == [91, 55, 126]) = true) : Calls Tryd.prog 34 #[.string S] w fun e w' => Key2 (6, 0) e ∧ Below w.heap.size w w' := by
  go_enter Tryd.func34, Tryd.ntmps34
  go_wp2
  refine bodyPost_ret (v := .agg #[.int .i64 6, .int .i64 0]) ?_ rfl ?_
  · simp [results, Tryd.results34, go_sem]
  · exact ⟨rfl, by (repeat (first | exact Below.refl _ _ | refine Below.alloc ?_ ?_ _ | refine Below.setCell ?_ ?_ _)); all_goals first | omega | (simp; done) | (simp; omega)⟩
set_option maxHeartbeats 1000000 in
theorem rKey_8 (q0 : (S.toList == [91, 67]) = false) (q1 : (S.toList == [79, 67]) = false) (q2 : (S.toList == [91, 68]) = false) (q3 : (S.toList == [79, 68]) = false) (q4 : (S.toList == [91, 72]) = false) (q5 : (S.toList == [79, 72]) = false) (q6 : (S.toList == [91, 49, 126]) = false) (q7 : (S.toList == [91, 55, 126]) = false) (q8 : (S.toList == [91, 70]) = true) : Calls Tryd.prog 34 #[.string S] w fun e w' => Key2 (7, 0) e ∧ Below w.heap.size w w' := by
  go_enter Tryd.func34, Tryd.ntmps34
  go_wp2
  refine bodyPost_ret (v := .agg #[.int .i64 7, .int .i64 0]) ?_ rfl ?_
  · simp [results, Tryd.results34, go_sem]
  · exact ⟨rfl, by (repeat (first | exact Below.refl _ _ | refine Below.alloc ?_ ?_ _ | refine Below.setCell ?_ ?_ _)); all_goals first | omega | (simp; done) | (simp; omega)⟩
set_option maxHeartbeats 1000000 in
theorem rKey_9 (q0 : (S.toList == [91, 67]) = false) (q1 : (S.toList == [79, 67]) = false) (q2 : (S.toList == [91, 68]) = false) (q3 : (S.toList == [79, 68]) = false) (q4 : (S.toList == [91, 72]) = false) (q5 : (S.toList == [79, 72]) = false) (q6 : (S.toList == [91, 49, 126]) = false) (q7 : (S.toList == [91, 55, 126]) = false) (q8 : (S.toList == [91, 70]) = false) (q9 : (S.toList == [79, 70]) = true) : Calls Tryd.prog 34 #[.string S] w fun e w' => Key2 (7, 0) e ∧ Below w.heap.size w w' := by
  go_enter Tryd.func34, Tryd.ntmps34
  go_wp2
  refine bodyPost_ret (v := .agg #[.int .i64 7, .int .i64 0]) ?_ rfl ?_
  · simp [results, Tryd.results34, go_sem]
  · exact ⟨rfl, by (repeat (first | exact Below.refl _ _ | refine Below.alloc ?_ ?_ _ | refine Below.setCell ?_ ?_ _)); all_goals first | omega | (simp; done) | (simp; omega)⟩
set_option maxHeartbeats 1000000 in
theorem rKey_10 (q0 : (S.toList == [91, 67]) = false) (q1 : (S.toList == [79, 67]) = false) (q2 : (S.toList == [91, 68]) = false) (q3 : (S.toList == [79, 68]) = false) (q4 : (S.toList == [91, 72]) = false) (q5 : (S.toList == [79, 72]) = false) (q6 : (S.toList == [91, 49, 126]) = false) (q7 : (S.toList == [91, 55, 126]) = false) (q8 : (S.toList == [91, 70]) = false) (q9 : (S.toList == [79, 70]) = false) (q10 : (S.toList == [91, 52, 126]) = true) : Calls Tryd.prog 34 #[.string S] w fun e w' => Key2 (7, 0) e ∧ Below w.heap.size w w' := by
  go_enter Tryd.func34, Tryd.ntmps34
  go_wp2
  refine bodyPost_ret (v := .agg #[.int .i64 7, .int .i64 0]) ?_ rfl ?_
  · simp [results, Tryd.results34, go_sem]
  · exact ⟨rfl, by (repeat (first | exact Below.refl _ _ | refine Below.alloc ?_ ?_ _ | refine Below.setCell ?_ ?_ _)); all_goals first | omega | (simp; done) | (simp; omega)⟩
set_option maxHeartbeats 1000000 in
theorem rKey_11 (q0 : (S.toList == [91, 67]) = false) (q1 : (S.toList == [79, 67]) = false) (q2 : (S.toList == [91, 68]) = false) (q3 : (S.toList == [79, 68]) = false) (q4 : (S.toList == [91, 72]) = false) (q5 : (S.toList == [79, 72]) = false) (q6 : (S.toList == [91, 49, 126]) = false) (q7 : (S.toList == [91, 55, 126]) = false) (q8 : (S.toList == [91, 70]) = false) (q9 : (S.toList == [79, 70]) = false) (q10 : (S.toList == [91, 52, 126]) = false) (q11 : (S.toList == [91, 56, 126]) = true) : Calls Tryd.prog 34 #[.string S] w fun e w' => Key2 (7, 0) e ∧ Below w.heap.size w w' := by
  go_enter Tryd.func34, Tryd.ntmps34
  go_wp2
  refine bodyPost_ret (v := .agg #[.int .i64 7, .int .i64 0]) ?_ rfl ?_
  · simp [results, Tryd.results34, go_sem]
  · exact ⟨rfl, by (repeat (first | exact Below.refl _ _ | refine Below.alloc ?_ ?_ _ | refine Below.setCell ?_ ?_ _)); all_goals first | omega | (simp; done) | (simp; omega)⟩
set_option maxHeartbeats 1000000 in
theorem rKey_12 (q0 : (S.toList == [91, 67]) = false) (q1 : (S.toList == [79, 67]) = false) (q2 : (S.toList == [91, 68]) = false) (q3 : (S.toList == [79, 68]) = false) (q4 : (S.toList == [91, 72]) = false) (q5 : (S.toList == [79, 72]) = false) (q6 : (S.toList == [91, 49, 126]) = false) (q7 : (S.toList == [91, 55, 126]) = false) (q8 : (S.toList == [91, 70]) = false) (q9 : (S.toList == [79, 70]) = false) (q10 : (S.toList == [91, 52, 126]) = false) (q11 : (S.toList == [91, 56, 126]) = false) (q12 : (S.toList == [91, 51, 126]) = true) : Calls Tryd.prog 34 #[.string S] w fun e w' => Key2 (3, 0) e ∧ Below w.heap.size w w' := by
  go_enter Tryd.func34, Tryd.ntmps34
  go_wp2
  refine bodyPost_ret (v := .agg #[.int .i64 3, .int .i64 0]) ?_ rfl ?_
  · simp [results, Tryd.results34, go_sem]
  · exact ⟨rfl, by (repeat (first | exact Below.refl _ _ | refine Below.alloc ?_ ?_ _ | refine Below.setCell ?_ ?_ _)); all_goals first | omega | (simp; done) | (simp; omega)⟩
set_option maxHeartbeats 1000000 in
theorem rKey_13 (q0 : (S.toList == [91, 67]) = false) (q1 : (S.toList == [79, 67]) = false) (q2 : (S.toList == [91, 68]) = false) (q3 : (S.toList == [79, 68]) = false) (q4 : (S.toList == [91, 72]) = false) (q5 : (S.toList == [79, 72]) = false) (q6 : (S.toList == [91, 49, 126]) = false) (q7 : (S.toList == [91, 55, 126]) = false) (q8 : (S.toList == [91, 70]) = false) (q9 : (S.toList == [79, 70]) = false) (q10 : (S.toList == [91, 52, 126]) = false) (q11 : (S.toList == [91, 56, 126]) = false) (q12 : (S.toList == [91, 51, 126]) = false) (q13 : (S.toList == [91, 50, 48, 48, 126]) = true) : Calls Tryd.prog 34 #[.string S] w fun e w' => Key2 (13, 0) e ∧ Below w.heap.size w w' := by
  go_enter Tryd.func34, Tryd.ntmps34
  go_wp2
  refine bodyPost_ret (v := .agg #[.int .i64 13, .int .i64 0]) ?_ rfl ?_
  · simp [results, Tryd.results34, go_sem]
  · exact ⟨rfl, by (repeat (first | exact Below.refl _ _ | refine Below.alloc ?_ ?_ _ | refine Below.setCell ?_ ?_ _)); all_goals first | omega | (simp; done) | (simp; omega)⟩
set_option maxHeartbeats 1000000 in
theorem rKey_14 (q0 : (S.toList == [91, 67]) = false) (q1 : (S.toList == [79, 67]) = false) (q2 : (S.toList == [91, 68]) = false) (q3 : (S.toList == [79, 68]) = false) (q4 : (S.toList == [91, 72]) = false) (q5 : (S.toList == [79, 72]) = false) (q6 : (S.toList == [91, 49, 126]) = false) (q7 : (S.toList == [91, 55, 126]) = false) (q8 : (S.toList == [91, 70]) = false) (q9 : (S.toList == [79, 70]) = false) (q10 : (S.toList == [91, 52, 126]) = false) (q11 : (S.toList == [91, 56, 126]) = false) (q12 : (S.toList == [91, 51, 126]) = false) (q13 : (S.toList == [91, 50, 48, 48, 126]) = false) (q14 : (S.toList == [91, 50, 48, 49, 126]) = true) : Calls Tryd.prog 34 #[.string S] w fun e w' => Key2 (14, 0) e ∧ Below w.heap.size w w' := by
  go_enter Tryd.func34, Tryd.ntmps34
  go_wp2
  refine bodyPost_ret (v := .agg #[.int .i64 14, .int .i64 0]) ?_ rfl ?_
  · simp [results, Tryd.results34, go_sem]
  · exact ⟨rfl, by (repeat (first | exact Below.refl _ _ | refine Below.alloc ?_ ?_ _ | refine Below.setCell ?_ ?_ _)); all_goals first | omega | (simp; done) | (simp; omega)⟩
set_option maxHeartbeats 1000000 in
theorem rKey_15 (q0 : (S.toList == [91, 67]) = false) (q1 : (S.toList == [79, 67]) = false) (q2 : (S.toList == [91, 68]) = false) (q3 : (S.toList == [79, 68]) = false) (q4 : (S.toList == [91, 72]) = false) (q5 : (S.toList == [79, 72]) = false) (q6 : (S.toList == [91, 49, 126]) = false) (q7 : (S.toList == [91, 55, 126]) = false) (q8 : (S.toList == [91, 70]) = false) (q9 : (S.toList == [79, 70]) = false) (q10 : (S.toList == [91, 52, 126]) = false) (q11 : (S.toList == [91, 56, 126]) = false) (q12 : (S.toList == [91, 51, 126]) = false) (q13 : (S.toList == [91, 50, 48, 48, 126]) = false) (q14 : (S.toList == [91, 50, 48, 49, 126]) = false) : Calls Tryd.prog 34 #[.string S] w fun e w' => Key2 (15, 0) e ∧ Below w.heap.size w w' := by
  go_enter Tryd.func34, Tryd.ntmps34
  go_wp2
  refine bodyPost_ret (v := .agg #[.int .i64 15, .int .i64 0]) ?_ rfl ?_
  · simp [results, Tryd.results34, go_sem]
  · exact ⟨rfl, by (repeat (first | exact Below.refl _ _ | refine Below.alloc ?_ ?_ _ | refine Below.setCell ?_ ?_ _)); all_goals first | omega | (simp; done) | (simp; omega)⟩
end
theorem rKey_any (w : World) (l : List UInt8) :
    Calls Tryd.prog 34 #[sb l] w fun e w' => Key2 (ekey (27 :: l), 0) e ∧ Below w.heap.size w w' := by
  have he : ekey (27 :: l) = ((knownL.lookup (27 :: l)).getD 15) := rfl
  simp only [knownL, List.lookup_cons, List.lookup_nil, List.cons_beq_cons, beq_self_eq_true, Bool.true_and] at he
  by_cases h0 : (l == [91, 67]) = true
  · rw [h0] at he; simp only [Option.getD_some] at he; rw [he]; exact rKey_0 w _ (tl_beq _ _ _ h0)
  · simp only [Bool.not_eq_true] at h0
    by_cases h1 : (l == [79, 67]) = true
    · rw [h0, h1] at he; simp only [Option.getD_some] at he; rw [he]; exact rKey_1 w _ (tl_beq _ _ _ h0) (tl_beq _ _ _ h1)
    · simp only [Bool.not_eq_true] at h1
      by_cases h2 : (l == [91, 68]) = true
      · rw [h0, h1, h2] at he; simp only [Option.getD_some] at he; rw [he]; exact rKey_2 w _ (tl_beq _ _ _ h0) (tl_beq _ _ _ h1) (tl_beq _ _ _ h2)
      · simp only [Bool.not_eq_true] at h2
        by_cases h3 : (l == [79, 68]) = true
        · rw [h0, h1, h2, h3] at he; simp only [Option.getD_some] at he; rw [he]; exact rKey_3 w _ (tl_beq _ _ _ h0) (tl_beq _ _ _ h1) (tl_beq _ _ _ h2) (tl_beq _ _ _ h3)
        · simp only [Bool.not_eq_true] at h3
          by_cases h4 : (l == [91, 72]) = true
          · rw [h0, h1, h2, h3, h4] at he; simp only [Option.getD_some] at he; rw [he]; exact rKey_4 w _ (tl_beq _ _ _ h0) (tl_beq _ _ _ h1) (tl_beq _ _ _ h2) (tl_beq _ _ _ h3) (tl_beq _ _ _ h4)
          · simp only [Bool.not_eq_true] at h4
            by_cases h5 : (l == [79, 72]) = true
            · rw [h0, h1, h2, h3, h4, h5] at he; simp only [Option.getD_some] at he; rw [he]; exact rKey_5 w _ (tl_beq _ _ _ h0) (tl_beq _ _ _ h1) (tl_beq _ _ _ h2) (tl_beq _ _ _ h3) (tl_beq _ _ _ h4) (tl_beq _ _ _ h5)
            · simp only [Bool.not_eq_true] at h5
              by_cases h6 : (l == [91, 49, 126]) = true
              · rw [h0, h1, h2, h3, h4, h5, h6] at he; simp only [Option.getD_some] at he; rw [he]; exact rKey_6 w _ (tl_beq _ _ _ h0) (tl_beq _ _ _ h1) (tl_beq _ _ _ h2) (tl_beq _ _ _ h3) (tl_beq _ _ _ h4) (tl_beq _ _ _ h5) (tl_beq _ _ _ h6)
              · simp only [Bool.not_eq_true] at h6
                by_cases h7 : (l == [91, 55, 126]) = true
                · rw [h0, h1, h2, h3, h4, h5, h6, h7] at he; simp only [Option.getD_some] at he; rw [he]; exact rKey_7 w _ (tl_beq _ _ _ h0) (tl_beq _ _ _ h1) (tl_beq _ _ _ h2) (tl_beq _ _ _ h3) (tl_beq _ _ _ h4) (tl_beq _ _ _ h5) (tl_beq _ _ _ h6) (tl_beq _ _ _ h7)
                · simp only [Bool.not_eq_true] at h7
                  by_cases h8 : (l == [91, 70]) = true
                  · rw [h0, h1, h2, h3, h4, h5, h6, h7, h8] at he; simp only [Option.getD_some] at he; rw [he]; exact rKey_8 w _ (tl_beq _ _ _ h0) (tl_beq _ _ _ h1) (tl_beq _ _ _ h2) (tl_beq _ _ _ h3) (tl_beq _ _ _ h4) (tl_beq _ _ _ h5) (tl_beq _ _ _ h6) (tl_beq _ _ _ h7) (tl_beq _ _ _ h8)
                  · simp only [Bool.not_eq_true] at h8
                    by_cases h9 : (l == [79, 70]) = true
                    · rw [h0, h1, h2, h3, h4, h5, h6, h7, h8, h9] at he; simp only [Option.getD_some] at he; rw [he]; exact rKey_9 w _ (tl_beq _ _ _ h0) (tl_beq _ _ _ h1) (tl_beq _ _ _ h2) (tl_beq _ _ _ h3) (tl_beq _ _ _ h4) (tl_beq _ _ _ h5) (tl_beq _ _ _ h6) (tl_beq _ _ _ h7) (tl_beq _ _ _ h8) (tl_beq _ _ _ h9)
                    · simp only [Bool.not_eq_true] at h9
                      by_cases h10 : (l == [91, 52, 126]) = true
                      · rw [h0, h1, h2, h3, h4, h5, h6, h7, h8, h9, h10] at he; simp only [Option.getD_some] at he; rw [he]; exact rKey_10 w _ (tl_beq _ _ _ h0) (tl_beq _ _ _ h1) (tl_beq _ _ _ h2) (tl_beq _ _ _ h3) (tl_beq _ _ _ h4) (tl_beq _ _ _ h5) (tl_beq _ _ _ h6) (tl_beq _ _ _ h7) (tl_beq _ _ _ h8) (tl_beq _ _ _ h9) (tl_beq _ _ _ h10)
                      · simp only [Bool.not_eq_true] at h10
                        by_cases h11 : (l == [91, 56, 126]) = true
                        · rw [h0, h1, h2, h3, h4, h5, h6, h7, h8, h9, h10, h11] at he; simp only [Option.getD_some] at he; rw [he]; exact rKey_11 w _ (tl_beq _ _ _ h0) (tl_beq _ _ _ h1) (tl_beq _ _ _ h2) (tl_beq _ _ _ h3) (tl_beq _ _ _ h4) (tl_beq _ _ _ h5) (tl_beq _ _ _ h6) (tl_beq _ _ _ h7) (tl_beq _ _ _ h8) (tl_beq _ _ _ h9) (tl_beq _ _ _ h10) (tl_beq _ _ _ h11)
                        · simp only [Bool.not_eq_true] at h11
                          by_cases h12 : (l == [91, 51, 126]) = true
                          · rw [h0, h1, h2, h3, h4, h5, h6, h7, h8, h9, h10, h11, h12] at he; simp only [Option.getD_some] at he; rw [he]; exact rKey_12 w _ (tl_beq _ _ _ h0) (tl_beq _ _ _ h1) (tl_beq _ _ _ h2) (tl_beq _ _ _ h3) (tl_beq _ _ _ h4) (tl_beq _ _ _ h5) (tl_beq _ _ _ h6) (tl_beq _ _ _ h7) (tl_beq _ _ _ h8) (tl_beq _ _ _ h9) (tl_beq _ _ _ h10) (tl_beq _ _ _ h11) (tl_beq _ _ _ h12)
                          · simp only [Bool.not_eq_true] at h12
                            by_cases h13 : (l == [91, 50, 48, 48, 126]) = true
                            · rw [h0, h1, h2, h3, h4, h5, h6, h7, h8, h9, h10, h11, h12, h13] at he; simp only [Option.getD_some] at he; rw [he]; exact rKey_13 w _ (tl_beq _ _ _ h0) (tl_beq _ _ _ h1) (tl_beq _ _ _ h2) (tl_beq _ _ _ h3) (tl_beq _ _ _ h4) (tl_beq _ _ _ h5) (tl_beq _ _ _ h6) (tl_beq _ _ _ h7) (tl_beq _ _ _ h8) (tl_beq _ _ _ h9) (tl_beq _ _ _ h10) (tl_beq _ _ _ h11) (tl_beq _ _ _ h12) (tl_beq _ _ _ h13)
                            · simp only [Bool.not_eq_true] at h13
                              by_cases h14 : (l == [91, 50, 48, 49, 126]) = true
                              · rw [h0, h1, h2, h3, h4, h5, h6, h7, h8, h9, h10, h11, h12, h13, h14] at he; simp only [Option.getD_some] at he; rw [he]; exact rKey_14 w _ (tl_beq _ _ _ h0) (tl_beq _ _ _ h1) (tl_beq _ _ _ h2) (tl_beq _ _ _ h3) (tl_beq _ _ _ h4) (tl_beq _ _ _ h5) (tl_beq _ _ _ h6) (tl_beq _ _ _ h7) (tl_beq _ _ _ h8) (tl_beq _ _ _ h9) (tl_beq _ _ _ h10) (tl_beq _ _ _ h11) (tl_beq _ _ _ h12) (tl_beq _ _ _ h13) (tl_beq _ _ _ h14)
                              · simp only [Bool.not_eq_true] at h14
                                rw [h0, h1, h2, h3, h4, h5, h6, h7, h8, h9, h10, h11, h12, h13, h14] at he; simp only [Option.getD_none] at he; rw [he]; exact rKey_15 w _ (tl_beq _ _ _ h0) (tl_beq _ _ _ h1) (tl_beq _ _ _ h2) (tl_beq _ _ _ h3) (tl_beq _ _ _ h4) (tl_beq _ _ _ h5) (tl_beq _ _ _ h6) (tl_beq _ _ _ h7) (tl_beq _ _ _ h8) (tl_beq _ _ _ h9) (tl_beq _ _ _ h10) (tl_beq _ _ _ h11) (tl_beq _ _ _ h12) (tl_beq _ _ _ h13) (tl_beq _ _ _ h14)
end Go.Proofs.YtnogcpjfgnpbbaaDoor
