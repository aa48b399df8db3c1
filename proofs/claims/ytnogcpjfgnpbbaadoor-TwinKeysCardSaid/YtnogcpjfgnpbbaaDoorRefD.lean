/- The contract of whispererref09.Next. Conditions: none. -/
import Derived.Test.YtnogcpjfgnpbbaaDoorRefC
set_option linter.unusedSimpArgs false
set_option linter.unusedVariables false
namespace Go.Proofs.YtnogcpjfgnpbbaaDoor
open Go.RowKit

section
variable (w : World) (b off n c : Nat) (x y : UInt8) (r : List UInt8)
set_option maxHeartbeats 1000000 in
theorem rEsc_nil : Calls Tryd.prog 19 #[.slice (some ⟨b, off, none⟩) 0 c] w fun e w' => KeyRes (0, 0, 6) e ∧ Below w.heap.size w w' := by
  go_enter Tryd.func19, Tryd.ntmps19
  go_wp2
  refine bodyPost_ret (v := .tuple #[.agg #[.int .i64 0, .int .i64 0], .int .i64 0, .int .i64 6]) ?_ rfl ?_
  · simp [results, Tryd.results19, go_sem]
  · exact ⟨rfl, by (repeat (first | exact Below.refl _ _ | refine Below.alloc ?_ ?_ _ | refine Below.setCell ?_ ?_ _)); all_goals first | omega | (simp; done) | (simp; omega)⟩

set_option maxHeartbeats 1000000 in
theorem rEsc_not (l : List UInt8) (h : Rd w (some ⟨b, off, none⟩) n c (x :: l)) (hx : x.toNat ≠ 27) : Calls Tryd.prog 19 #[.slice (some ⟨b, off, none⟩) n c] w fun e w' => KeyRes (0, 0, 8) e ∧ Below w.heap.size w w' := by
  have h0 := h.get0
  have hbs : b < w.heap.size := World.block_lt_of_cell? _ _ h0
  have hn : 0 < n := by have := h.len; simp at this; omega
  have hn0 : ((n : Int) == 0) = false := by simp; omega
  have hle := h.le; have hbig := h.big
  have hx2 : ((x.toNat : Int) != 27) = true := by simp; omega
  have hx3 := b_lt x
  generalize x.toNat = X at *
  clear h hx
  go_enter Tryd.func19, Tryd.ntmps19
  go_wp2
  refine bodyPost_ret (v := .tuple #[.agg #[.int .i64 0, .int .i64 0], .int .i64 0, .int .i64 8]) ?_ rfl ?_
  · simp [results, Tryd.results19, go_sem]
  · exact ⟨rfl, by (repeat (first | exact Below.refl _ _ | refine Below.alloc ?_ ?_ _ | refine Below.setCell ?_ ?_ _)); all_goals first | omega | (simp; done) | (simp; omega)⟩

set_option maxHeartbeats 1000000 in
theorem rEsc_one (h : Rd w (some ⟨b, off, none⟩) 1 c [x]) (hx : x.toNat = 27) : Calls Tryd.prog 19 #[.slice (some ⟨b, off, none⟩) 1 c] w fun e w' => KeyRes (0, 1, 7) e ∧ Below w.heap.size w w' := by
  have h0 := h.get0
  have hbs : b < w.heap.size := World.block_lt_of_cell? _ _ h0
  have hle := h.le; have hbig := h.big
  rw [hx] at h0
  clear h hx
  go_enter Tryd.func19, Tryd.ntmps19
  go_wp2
  refine bodyPost_ret (v := .tuple #[.agg #[.int .i64 0, .int .i64 0], .int .i64 1, .int .i64 7]) ?_ rfl ?_
  · simp [results, Tryd.results19, go_sem]
  · exact ⟨rfl, by (repeat (first | exact Below.refl _ _ | refine Below.alloc ?_ ?_ _ | refine Below.setCell ?_ ?_ _)); all_goals first | omega | (simp; done) | (simp; omega)⟩

set_option maxHeartbeats 1000000 in
theorem rEsc_other (h : Rd w (some ⟨b, off, none⟩) n c (x :: y :: r)) (hx : x.toNat = 27) (hy : y.toNat ≠ 91) (hy2 : y.toNat ≠ 79) : Calls Tryd.prog 19 #[.slice (some ⟨b, off, none⟩) n c] w fun e w' => KeyRes (15, 1, 0) e ∧ Below w.heap.size w w' := by
  have h0 := h.get0
  have h1 : w.cell? ⟨b, off + 1, none⟩ = some (.int .u8 y.toNat) := h.cell b off rfl 1 y rfl
  have hbs : b < w.heap.size := World.block_lt_of_cell? _ _ h0
  have hn : 1 < n := by have := h.len; simp at this; omega
  have hn0 : ((n : Int) == 0) = false := by simp; omega
  have hn2 : ((n : Int) == 1) = false := by simp; omega
  have hle := h.le; have hbig := h.big
  have hx2 : ((y.toNat : Int) != 91) = true := by simp; omega
  have hx4 : ((y.toNat : Int) != 79) = true := by simp; omega
  have hx3 := b_lt y
  rw [hx] at h0
  generalize y.toNat = Y at *
  clear h hx hy hy2
  go_enter Tryd.func19, Tryd.ntmps19
  go_wp2
  refine bodyPost_ret (v := .tuple #[.agg #[.int .i64 15, .int .i64 0], .int .i64 1, .int .i64 0]) ?_ rfl ?_
  · simp [results, Tryd.results19, go_sem]
  · exact ⟨rfl, by (repeat (first | exact Below.refl _ _ | refine Below.alloc ?_ ?_ _ | refine Below.setCell ?_ ?_ _)); all_goals first | omega | (simp; done) | (simp; omega)⟩

set_option maxRecDepth 100000 in
set_option maxHeartbeats 4000000 in
theorem rEsc_scan (O : Bool) (h : Rd w (some ⟨b, off, none⟩) n c (x :: y :: r)) (hx : x.toNat = 27) (hy : y.toNat = if O then 79 else 91) :
    Calls Tryd.prog 19 #[.slice (some ⟨b, off, none⟩) n c] w fun e w' => KeyRes (escan (x :: y :: r) O (r.length + 1) 2 false) e ∧ Below w.heap.size w w' := by
  have h0 := h.get0
  have h1 : w.cell? ⟨b, off + 1, none⟩ = some (.int .u8 y.toNat) := h.cell b off rfl 1 y rfl
  have hbs : b < w.heap.size := World.block_lt_of_cell? _ _ h0
  have hlen := h.len
  have hn : 1 < n := by simp at hlen; omega
  have hn0 : ((n : Int) == 0) = false := by simp; omega
  have hn2 : ((n : Int) == 1) = false := by simp; omega
  have hn1 : (1 : Int) < n := by omega
  have hle := h.le; have hbig := h.big
  have hc1 : ¬ c = 1 := by omega
  rw [hx] at h0
  have hD : (x :: y :: r).length ≤ 2 + (r.length + 1) := by simp; omega
  have hkey : Hid (∀ k : Nat, 1 ≤ k → k < n → ∃ S : ByteArray, Sem.run Tryd.prog (convert 22 9 (.slice (some ⟨b, off + 1, none⟩) k (c - 1))) ((w.alloc (Obj.cells #[Value.int IntKind.i64 0, Value.int IntKind.i64 0] 43)).alloc (Obj.cells #[Value.int IntKind.i64 15, Value.int IntKind.i64 0] 43)) = .ok (.string S) ((w.alloc (Obj.cells #[Value.int IntKind.i64 0, Value.int IntKind.i64 0] 43)).alloc (Obj.cells #[Value.int IntKind.i64 15, Value.int IntKind.i64 0] 43)) ∧
      ∀ W : World, Calls Tryd.prog 34 #[.string S] W fun e w' => Key2 (ekey ((x :: y :: r).take (k + 1)), 0) e ∧ Below W.heap.size W w') := by
    intro k hk1 hk
    have hd := ((h.below (((Below.refl _ w).alloc (Nat.le_refl _) (Obj.cells #[Value.int IntKind.i64 0, Value.int IntKind.i64 0] 43)).alloc (by simp) (Obj.cells #[Value.int IntKind.i64 15, Value.int IntKind.i64 0] 43))).take (k + 1) (by omega)).drop 1 (by omega)
    rw [if_neg hc1, Nat.add_sub_cancel] at hd
    refine ⟨_, hd.str _ _ _ Tryd.underlying22 Tryd.underlying5 Tryd.underlying9, ?_⟩
    have hx27 : x = 27 := UInt8.toNat_inj.1 (by rw [hx]; rfl)
    have e : (x :: y :: r).take (k + 1) = 27 :: (List.drop 1 ((x :: y :: r).take (k + 1))) := by simp [hx27]
    rw [e]
    simp only [List.drop_succ_cons, List.drop_zero]
    exact fun W => rKey_any W _
  generalize x :: y :: r = l at *
  generalize r.length + 1 = D at *
  have hlen' := Lib.hid hlen
  clear hlen hx
  have hh := Lib.hid h
  clear h
  obtain ⟨F, hF⟩ : ∃ F, escan l O = F := ⟨_, rfl⟩
  have hS : Hid (∀ d k o, l.length ≤ k + d → k < n → F d k o = if 64 ≤ (l.getD k 0).toNat ∧ (l.getD k 0).toNat ≤ 126 then (ekey (l.take (k + 1)), k + 1, 0)
      else if O = true ∨ 34 ≤ k then (15, k, 0)
      else if (48 ≤ (l.getD k 0).toNat ∧ (l.getD k 0).toNat ≤ 63) ∧ o = false then F (d - 1) (k + 1) o
      else if 32 ≤ (l.getD k 0).toNat ∧ (l.getD k 0).toNat ≤ 47 then F (d - 1) (k + 1) true
      else (15, k, 0)) := by
    intro d k o h1 h2
    have := hlen'.out
    subst hF
    cases d with
    | zero => omega
    | succ d => rw [escan, if_pos (by omega)]; rfl
  have hT : Hid (∀ d k o, n ≤ k → F d k o = (0, n, 7)) := by
    intro d k o h1
    have := hlen'.out
    subst hF
    cases d with
    | zero => rw [escan, this]
    | succ d => rw [escan, if_neg (by omega), this]
  obtain ⟨P1, hP1⟩ : ∃ P1 : Nat → Prop, (fun k => O = true ∨ n ≤ k ∨ 34 ≤ k ∨ ¬ (48 ≤ (l.getD k 0).toNat ∧ (l.getD k 0).toNat ≤ 63)) = P1 := ⟨_, rfl⟩
  have hPi : Hid (∀ k, (O = true ∨ n ≤ k ∨ 34 ≤ k ∨ ¬ (48 ≤ (l.getD k 0).toNat ∧ (l.getD k 0).toNat ≤ 63)) → P1 k) := by subst hP1; exact fun _ h => h
  have hStep1 : Hid (∀ d k, l.length ≤ k + d → k < n → O = false → k < 34 → (48 ≤ (l.getD k 0).toNat ∧ (l.getD k 0).toNat ≤ 63) → F d k false = F (d - 1) (k + 1) false) := by
    intro d k h1 h2 h3 h4 h5
    rw [hS.out d k false h1 h2, if_neg (by omega), if_neg (by rw [h3]; simp; omega), if_pos ⟨h5, rfl⟩]
  have hStep2 : Hid (∀ d k ot, l.length ≤ k + d → k < n → O = false → k < 34 → (32 ≤ (l.getD k 0).toNat ∧ (l.getD k 0).toNat ≤ 47) → F d k ot = F (d - 1) (k + 1) true) := by
    intro d k ot h1 h2 h3 h4 h5
    rw [hS.out d k ot h1 h2, if_neg (by omega), if_neg (by rw [h3]; simp; omega), if_neg (by omega), if_pos h5]
  have hFin : Hid (∀ d k ot, l.length ≤ k + d → k < n → (64 ≤ (l.getD k 0).toNat ∧ (l.getD k 0).toNat ≤ 126) → F d k ot = (ekey (l.take (k + 1)), k + 1, 0)) := by
    intro d k ot h1 h2 h3
    rw [hS.out d k ot h1 h2, if_pos h3]
  have hBad : Hid (∀ d k ot, l.length ≤ k + d → k < n → ¬ (64 ≤ (l.getD k 0).toNat ∧ (l.getD k 0).toNat ≤ 126) → (ot = false → P1 k) → (O = true ∨ 34 ≤ k ∨ ¬ (32 ≤ (l.getD k 0).toNat ∧ (l.getD k 0).toNat ≤ 47)) → F d k ot = (15, k, 0)) := by
    intro d k ot h1 h2 h3 h4 h5
    subst hP1
    rw [hS.out d k ot h1 h2, if_neg h3]
    by_cases h6 : O = true ∨ 34 ≤ k
    · rw [if_pos h6]
    · rw [if_neg h6]
      have h7 : ¬ ((48 ≤ (l.getD k 0).toNat ∧ (l.getD k 0).toNat ≤ 63) ∧ ot = false) := by
        rintro ⟨ha, hb⟩
        rcases h4 hb with h | h | h | h
        · exact h6 (Or.inl h)
        · omega
        · exact h6 (Or.inr h)
        · exact h ha
      rw [if_neg h7, if_neg (h5.elim (fun h => absurd (Or.inl h) h6) (fun h => h.elim (fun h => absurd (Or.inr h) h6) id))]
  have hcellk : Hid (∀ k, k < n → w.cell? ⟨b, off + k, none⟩ = some (.int .u8 (l.getD k 0).toNat)) := fun k hk => hh.out.get k hk
  clear hP1 hS hh
  rw [hF]
  clear hF
  generalize y.toNat = Y at *
  cases O with
  | true =>
    simp only [if_true] at hy
    subst hy
    have hP2 : P1 2 := hPi.out 2 (Or.inl (by simp))
    have hR0 : Hid (F D 2 false = F D 2 false ∧ l.length ≤ 2 + D ∧ P1 2) := ⟨rfl, hD, hP2⟩
    clear hP2 hD
    go_enter Tryd.func19, Tryd.ntmps19
    go_wp2
    go_loop [6] (fun i => i = .int .i64 2) (fun _ => 0)
    case atStart => rfl
    case round =>
      subst hrel
      go_wp2
      go_loop [6] (fun i => i = .int .i64 2) (fun _ => 0)
      case atStart => rfl
      case round =>
        subst hrel
        by_cases hn3 : n = 2
        · have hE := Lib.hid (hT.out D 2 false (by omega))
          have hnq : ((2 : Int) == n) = true := by simp [hn3]
          subst hn3
          go_wp2
          refine bodyPost_ret (v := .tuple #[.agg #[.int .i64 0, .int .i64 0], .int .i64 2, .int .i64 7]) ?_ rfl ?_
          · simp [results, Tryd.results19, go_sem]
          · exact ⟨KeyRes.mk hE.out, by (repeat (first | exact Below.refl _ _ | assumption | refine Below.drew ?_ | refine Below.alloc ?_ ?_ _ | refine Below.setCell ?_ ?_ _)); all_goals first | omega | (simp; done) | (simp; omega)⟩
        · have hnq : ((2 : Int) == n) = false := by simp; omega
          have hn4 : (2 : Int) < n := by omega
          have hc2 := hcellk.out 2 (by omega)
          have hC := b_lt (l.getD 2 0)
          by_cases hf : 64 ≤ (l.getD 2 0).toNat ∧ (l.getD 2 0).toNat ≤ 126
          · have hE := Lib.hid (hFin.out D 2 false hR0.out.2.1 (by omega) hf)
            obtain ⟨S, hconv, hcall0⟩ := hkey.out 2 (by omega) (by omega)
            have hcall := Lib.hid hcall0
            clear hcall0
            generalize (l.getD 2 0).toNat = C at *
            obtain ⟨hC1, hC2⟩ := hf
            have hk1 : (2 : Int) + 1 ≤ c := by omega
            obtain ⟨EK, hEK⟩ : ∃ EK, ekey (l.take (2 + 1)) = EK := ⟨_, rfl⟩
            rw [hEK] at hcall hE
            clear hEK
            go_wp2_with (go_at_call 34; refine (hcall.out _).mono ?_; rintro e w' ⟨rfl, hb'⟩; have hBw : Below w.heap.size w w' := (((Below.refl _ w).alloc (Nat.le_refl _) _).alloc (by simp) _).trans (hb'.mono (by simp; omega)); have cc0 := hb'.cell (p := ⟨w.heap.size, 0, none⟩) (by simp; omega); have cc1 := hb'.cell (p := ⟨w.heap.size, 1, none⟩) (by simp; omega); have cf0 := hb'.frozen (p := ⟨w.heap.size, 0, none⟩) (by simp; omega); have cf1 := hb'.frozen (p := ⟨w.heap.size, 1, none⟩) (by simp; omega))
            refine bodyPost_ret (v := .tuple #[.agg #[.int .i64 EK, .int .i64 0], .int .i64 (2 + 1), .int .i64 0]) ?_ rfl ?_
            · simp [results, Tryd.results19, go_sem, cc0, cc1, cf0, cf1]
            · exact ⟨KeyRes.mk3 (by rw [hE.out]; exact ⟨rfl, by simp, rfl⟩), by (repeat (first | exact Below.refl _ _ | assumption | refine Below.drew ?_ | refine Below.alloc ?_ ?_ _ | refine Below.setCell ?_ ?_ _)); all_goals first | omega | (simp; done) | (simp; omega)⟩
          · have hE := Lib.hid (hBad.out D 2 false hR0.out.2.1 (by omega) hf (fun _ => hR0.out.2.2) (Or.inl (by simp)))
            generalize (l.getD 2 0).toNat = C at *
            by_cases hC1 : C < 64
            · clear hf hn3
              go_wp2
              refine bodyPost_ret (v := .tuple #[.agg #[.int .i64 15, .int .i64 0], .int .i64 2, .int .i64 0]) ?_ rfl ?_
              · simp [results, Tryd.results19, go_sem]
              · exact ⟨KeyRes.mk hE.out, by (repeat (first | exact Below.refl _ _ | assumption | refine Below.drew ?_ | refine Below.alloc ?_ ?_ _ | refine Below.setCell ?_ ?_ _)); all_goals first | omega | (simp; done) | (simp; omega)⟩
            · have hC2 : 126 < C := by omega
              clear hf hn3
              go_wp2
              refine bodyPost_ret (v := .tuple #[.agg #[.int .i64 15, .int .i64 0], .int .i64 2, .int .i64 0]) ?_ rfl ?_
              · simp [results, Tryd.results19, go_sem]
              · exact ⟨KeyRes.mk hE.out, by (repeat (first | exact Below.refl _ _ | assumption | refine Below.drew ?_ | refine Below.alloc ?_ ?_ _ | refine Below.setCell ?_ ?_ _)); all_goals first | omega | (simp; done) | (simp; omega)⟩
  | false =>
    simp only [Bool.false_eq_true, if_false] at hy
    subst hy
    go_enter Tryd.func19, Tryd.ntmps19
    go_wp2
    go_loop [6] (fun i => ∃ k d : Nat, i = .int .i64 k ∧ 2 ≤ k ∧ k ≤ n ∧ l.length ≤ k + d ∧ Hid (F D 2 false = F d k false)) (fun i => n - (intOf i).toNat)
    case atStart => exact ⟨2, D, rfl, by omega, by omega, hD, rfl⟩
    case round =>
      obtain ⟨k, d, rfl, h2k, hkn, hkd, hR⟩ := hrel
      have hcase : (k < n ∧ k < 34 ∧ 48 ≤ (l.getD k 0).toNat ∧ (l.getD k 0).toNat ≤ 63) ∨ (P1 k ∧ n ≤ k) ∨ (P1 k ∧ k < n ∧ 34 ≤ k) ∨ (P1 k ∧ k < n ∧ k < 34 ∧ (l.getD k 0).toNat < 48) ∨ (P1 k ∧ k < n ∧ k < 34 ∧ 63 < (l.getD k 0).toNat) := by
        by_cases q1 : k < n
        · by_cases q2 : k < 34
          · by_cases q3 : (l.getD k 0).toNat < 48
            · exact Or.inr (Or.inr (Or.inr (Or.inl ⟨hPi.out k (Or.inr (Or.inr (Or.inr (by omega)))), q1, q2, q3⟩)))
            · by_cases q4 : 63 < (l.getD k 0).toNat
              · exact Or.inr (Or.inr (Or.inr (Or.inr ⟨hPi.out k (Or.inr (Or.inr (Or.inr (by omega)))), q1, q2, q4⟩)))
              · exact Or.inl ⟨q1, q2, by omega, by omega⟩
          · exact Or.inr (Or.inr (Or.inl ⟨hPi.out k (Or.inr (Or.inr (Or.inl (by omega)))), q1, by omega⟩))
        · exact Or.inr (Or.inl ⟨hPi.out k (Or.inr (Or.inl (by omega))), by omega⟩)
      have hcell1 : k < n → w.cell? ⟨b, off + k, none⟩ = some (.int .u8 (l.getD k 0).toNat) := hcellk.out k
      rcases hcase with ⟨q1, q2, q3, q4⟩ | ⟨hP, q1⟩ | ⟨hP, q1, q2⟩ | ⟨hP, q1, q2, q3⟩ | ⟨hP, q1, q2, q3⟩
      · have hE := Lib.hid (hR.out.trans (hStep1.out d k hkd q1 (by simp) q2 ⟨q3, q4⟩))
        have hck := hcell1 q1
        clear hR hcell1
        generalize (l.getD k 0).toNat = C at *
        go_wp2
        go_round
        case rel => exact ⟨k + 1, d - 1, by go_num, by omega, by omega, by have := hlen'.out; omega, hE⟩
        case measure => simp [intOf]; omega
      all_goals
        (have hP' : Hid (P1 k) := hP
         clear hP
         first
         | (have hck := hcell1 (by assumption)
            clear hcell1
            generalize (l.getD k 0).toNat = C at *
            go_wp2
            clear hck)
         | (clear hcell1
            go_wp2)
         try clear q3
         try clear q2
         clear q1
         go_loop [6] (fun i => ∃ k2 d2 : Nat, ∃ ot : Bool, i = .int .i64 k2 ∧ 2 ≤ k2 ∧ k2 ≤ n ∧ l.length ≤ k2 + d2 ∧ Hid (F D 2 false = F d2 k2 ot) ∧ Hid (ot = false → P1 k2)) (fun i => n - (intOf i).toNat)
         case atStart => exact ⟨k, d, false, rfl, h2k, hkn, hkd, hR, fun _ => hP'.out⟩
         case round =>
           clear hR hP' h2k hkn hkd
           obtain ⟨k2, d2, ot, rfl, h2k, hkn, hkd, hR, hP⟩ := hrel
           by_cases q1 : k2 < n
           · have hck := hcellk.out k2 q1
             have hC := b_lt (l.getD k2 0)
             have hkq : ((k2 : Int) == n) = false := by simp; omega
             by_cases q5 : k2 < 34 ∧ 32 ≤ (l.getD k2 0).toNat ∧ (l.getD k2 0).toNat ≤ 47
             · obtain ⟨q2, q3, q4⟩ := q5
               have hE := Lib.hid (hR.out.trans (hStep2.out d2 k2 ot hkd q1 (by simp) q2 ⟨q3, q4⟩))
               clear hR hP
               generalize (l.getD k2 0).toNat = C at *
               go_wp2
               go_round
               case rel => exact ⟨k2 + 1, d2 - 1, true, by go_num, by omega, by omega, by have := hlen'.out; omega, hE, fun h => absurd h (by simp)⟩
               case measure => simp [intOf]; omega
             · by_cases hf : 64 ≤ (l.getD k2 0).toNat ∧ (l.getD k2 0).toNat ≤ 126
               · have hE := Lib.hid (hR.out.trans (hFin.out d2 k2 ot hkd q1 hf))
                 clear hR hP q5
                 by_cases q2 : k2 < 34
                 all_goals
                   (obtain ⟨S, hconv, hcall0⟩ := hkey.out k2 (by omega) (by omega)
                    have hcall := Lib.hid hcall0
                    clear hcall0
                    generalize (l.getD k2 0).toNat = C at *
                    obtain ⟨hC1, hC2⟩ := hf
                    have hk1 : (k2 : Int) + 1 ≤ c := by omega
                    obtain ⟨EK, hEK⟩ : ∃ EK, ekey (l.take (k2 + 1)) = EK := ⟨_, rfl⟩
                    rw [hEK] at hcall hE
                    clear hEK
                    go_wp2_with (go_at_call 34; refine (hcall.out _).mono ?_; rintro e w' ⟨rfl, hb'⟩; have hBw : Below w.heap.size w w' := (((Below.refl _ w).alloc (Nat.le_refl _) _).alloc (by simp) _).trans (hb'.mono (by simp; omega)); have cc0 := hb'.cell (p := ⟨w.heap.size, 0, none⟩) (by simp; omega); have cc1 := hb'.cell (p := ⟨w.heap.size, 1, none⟩) (by simp; omega); have cf0 := hb'.frozen (p := ⟨w.heap.size, 0, none⟩) (by simp; omega); have cf1 := hb'.frozen (p := ⟨w.heap.size, 1, none⟩) (by simp; omega))
                    refine bodyPost_ret (v := .tuple #[.agg #[.int .i64 EK, .int .i64 0], .int .i64 ((k2 : Int) + 1), .int .i64 0]) ?_ rfl ?_
                    · simp [results, Tryd.results19, go_sem, cc0, cc1, cf0, cf1]
                    · exact ⟨KeyRes.mk3 (by rw [hE.out]; exact ⟨rfl, by simp, rfl⟩), by (repeat (first | exact Below.refl _ _ | assumption | refine Below.drew ?_ | refine Below.alloc ?_ ?_ _ | refine Below.setCell ?_ ?_ _)); all_goals first | omega | (simp; done) | (simp; omega)⟩)
               · have hE := Lib.hid (hR.out.trans (hBad.out d2 k2 ot hkd q1 hf hP.out (if q2 : k2 < 34 then Or.inr (Or.inr (fun h => q5 ⟨q2, h⟩)) else Or.inr (Or.inl (by omega)))))
                 clear hR hP
                 generalize (l.getD k2 0).toNat = C at *
                 have hq : (34 ≤ k2 ∧ C < 64) ∨ (34 ≤ k2 ∧ 126 < C) ∨ (k2 < 34 ∧ C < 32) ∨ (k2 < 34 ∧ 47 < C ∧ C < 64) ∨ (k2 < 34 ∧ 126 < C) := by omega
                 clear hf q5
                 rcases hq with ⟨q2, q3⟩ | ⟨q2, q3⟩ | ⟨q2, q3⟩ | ⟨q2, q3, q4⟩ | ⟨q2, q3⟩
                 all_goals
                   (go_wp2
                    refine bodyPost_ret (v := .tuple #[.agg #[.int .i64 15, .int .i64 0], .int .i64 k2, .int .i64 0]) ?_ rfl ?_
                    · simp [results, Tryd.results19, go_sem]
                    · exact ⟨KeyRes.mk hE.out, by (repeat (first | exact Below.refl _ _ | assumption | refine Below.drew ?_ | refine Below.alloc ?_ ?_ _ | refine Below.setCell ?_ ?_ _)); all_goals first | omega | (simp; done) | (simp; omega)⟩)
           · have hkn2 : k2 = n := by omega
             have hE := Lib.hid (hR.out.trans (hT.out d2 k2 ot (by omega)))
             have hkq : ((k2 : Int) == n) = true := by simp [hkn2]
             clear hR hP
             subst hkn2
             go_wp2
             refine bodyPost_ret (v := .tuple #[.agg #[.int .i64 0, .int .i64 0], .int .i64 k2, .int .i64 7]) ?_ rfl ?_
             · simp [results, Tryd.results19, go_sem]
             · exact ⟨KeyRes.mk hE.out, by (repeat (first | exact Below.refl _ _ | assumption | refine Below.drew ?_ | refine Below.alloc ?_ ?_ _ | refine Below.setCell ?_ ?_ _)); all_goals first | omega | (simp; done) | (simp; omega)⟩)
end
end Go.Proofs.YtnogcpjfgnpbbaaDoor
