/- Plain law: of bytes and their twin the same keys come, but for which characters they are. Conditions: none; no memory here. -/
import Derived.Test.YtnogcpjfgnpbbaaDoorTwinD
import Derived.Test.YtnogcpjfgnpbbaaDoorPRead
set_option linter.unusedSimpArgs false
set_option linter.unusedVariables false
namespace Go.Proofs.YtnogcpjfgnpbbaaDoor
open Go.RowKit

/-- what the keys of two texts have in common -/
structure SameRead (r s : List (Int × Int) × List UInt8 × Bool) : Prop where
  len : r.1.length = s.1.length
  held : r.2.1 = s.2.1
  paste : r.2.2 = s.2.2
  key : ∀ (i : Nat) (x y : Int × Int), r.1[i]? = some x → s.1[i]? = some y → x.1 = y.1 ∧ rlen x.2 = rlen y.2
theorem SameRead.refl (r : List (Int × Int) × List UInt8 × Bool) : SameRead r r := ⟨rfl, rfl, rfl, fun i x y h1 h2 => by rw [h1] at h2; injection h2 with h2; subst h2; exact ⟨rfl, rfl⟩⟩
theorem SameRead.cons {a b : Int × Int} {r s : List (Int × Int) × List UInt8 × Bool} (hk : a.1 = b.1 ∧ rlen a.2 = rlen b.2) (h : SameRead r s) : SameRead (a :: r.1, r.2) (b :: s.1, s.2) where
  len := by simp [h.len]
  held := h.held
  paste := h.paste
  key := by
    intro i x y h1 h2
    cases i with
    | zero => simp at h1 h2; subst h1; subst h2; exact hk
    | succ i => simp at h1 h2; exact h.key i x y h1 h2

/-! ### turned characters -/
theorem turn_same (c by_ : Int) (h : uprint c = true) : uprint (turnM c by_) = true ∧ rlen (turnM c by_) = rlen c ∧ (128 ≤ c ↔ 128 ≤ turnM c by_) := by
  unfold uprint ufine at h
  simp at h
  have key : ((32 ≤ c ∧ c ≤ 126) ∧ 32 ≤ turnM c by_ ∧ turnM c by_ ≤ 126) ∨ ((160 ≤ c ∧ c ≤ 2047) ∧ 160 ≤ turnM c by_ ∧ turnM c by_ ≤ 2047) ∨ ((65536 ≤ c ∧ c ≤ 1114111) ∧ 65536 ≤ turnM c by_ ∧ turnM c by_ ≤ 1114111) ∨
      ((2048 ≤ c ∧ c ≤ 65535) ∧ 2048 ≤ turnM c by_ ∧ turnM c by_ ≤ 65535 ∧ ¬ (55296 ≤ turnM c by_ ∧ turnM c by_ ≤ 57343)) := by
    unfold turnM
    by_cases h1 : c ≤ 126
    · rw [if_pos h1]; have := turnedM_bd c 32 126 by_ (by omega) h1; omega
    · rw [if_neg h1]
      by_cases h2 : c ≤ 2047
      · rw [if_pos h2]; have := turnedM_bd c 160 2047 by_ (by omega) h2; omega
      · rw [if_neg h2]
        by_cases h3 : 65535 < c
        · rw [if_pos h3]; have := turnedM_bd c 65536 1114111 by_ (by omega) (by omega); omega
        · rw [if_neg h3]
          by_cases h4 : 55296 < c
          · rw [if_pos h4]; have := turnedM_bd (c - 2048) 2048 63487 by_ (by omega) (by omega); split <;> omega
          · rw [if_neg h4]; have := turnedM_bd c 2048 63487 by_ (by omega) (by omega); split <;> omega
  generalize turnM c by_ = t at *
  unfold uprint ufine rlen
  rcases key with k | k | k | k
  · refine ⟨by simp; omega, ?_, by omega⟩
    rw [if_pos (by omega), if_pos (by omega)]
  · refine ⟨by simp; omega, ?_, by omega⟩
    rw [if_neg (by omega), if_pos (by omega), if_neg (by omega), if_pos (by omega)]
  · refine ⟨by simp; omega, ?_, by omega⟩
    rw [if_neg (by omega), if_neg (by omega), if_neg (by omega), if_neg (by omega), if_neg (by omega), if_neg (by omega)]
  · refine ⟨by simp; omega, ?_, by omega⟩
    rw [if_neg (by omega), if_neg (by omega), if_pos (by omega), if_neg (by omega), if_neg (by omega), if_pos (by omega)]

theorem u8n (n : Nat) (h : n < 256) : (UInt8.ofNat n).toNat = n := by simp [Nat.mod_eq_of_lt h]
theorem u8z (z : Int) (h0 : 0 ≤ z) (h : z < 256) : (UInt8.ofNat z.toNat).toNat = z.toNat := u8n _ (by omega)

/-- a character's bytes are read as that character -/
theorem uNext_ub (c : Nat) (h : uprint c = true) (t : List UInt8) : uNext (ub c ++ t) = (c, rlen c, 0) ∧ (ub c).length = rlen c ∧ (∃ y q, ub (c : Int) = y :: q ∧ (y.toNat = c ∧ c < 128 ∨ 194 ≤ y.toNat ∧ 128 ≤ c)) := by
  unfold uprint ufine at h
  simp at h
  unfold ub
  by_cases h1 : c < 128
  · rw [Lib.encodeRuneZ_one (by omega) (by omega)]
    have hr : rlen (c : Int) = 1 := by unfold rlen; rw [if_pos (by omega)]
    have e0 := u8n c (by omega)
    refine ⟨?_, by rw [hr]; rfl, _, _, rfl, Or.inl ⟨by simpa using e0, h1⟩⟩
    simp only [List.map_cons, List.map_nil, Int.toNat_natCast, List.cons_append, List.nil_append, uNext, e0, hr]
    have : usize c = 1 := by simp [usize, h1]
    rw [this]; simp
  · by_cases h2 : c < 2048
    · rw [Lib.encodeRuneZ_two (by omega) (by omega)]
      have hr : rlen (c : Int) = 2 := by unfold rlen; rw [if_neg (by omega), if_pos (by omega)]
      have e0 := u8z (192 + (c : Int) / 64) (by omega) (by omega)
      have e1 := u8z (128 + (c : Int) % 64) (by omega) (by omega)
      have f0 : (192 + (c : Int) / 64).toNat = 192 + c / 64 := by omega
      have f1 : (128 + (c : Int) % 64).toNat = 128 + c % 64 := by omega
      rw [f0] at e0; rw [f1] at e1
      refine ⟨?_, by rw [hr]; rfl, _, _, rfl, Or.inr ⟨by dsimp only; rw [f0, e0]; omega, by omega⟩⟩
      simp only [List.map_cons, List.map_nil, List.cons_append, List.nil_append, f0, f1]
      have hu : usize (192 + c / 64) = 2 := by unfold usize; rw [if_neg (by omega), if_pos (by omega)]
      rw [uN_go _ _ 2 (by rw [e0]; exact hu) (by omega), hr]
      have hs : usec (192 + c / 64) (128 + c % 64) = true := by unfold usec; rw [if_neg (by omega), if_neg (by omega), if_neg (by omega), if_neg (by omega)]; simp; omega
      rw [ugo_ok1 _ _ _ _ _ (by rw [e0, e1]; exact hs), ugo, e0, e1]
      simp; omega
    · by_cases h3 : c < 65536
      · rw [Lib.encodeRuneZ_three (by omega)]
        have hr : rlen (c : Int) = 3 := by unfold rlen; rw [if_neg (by omega), if_neg (by omega), if_pos (by omega)]
        have e0 := u8z (224 + (c : Int) / 4096) (by omega) (by omega)
        have e1 := u8z (128 + (c : Int) / 64 % 64) (by omega) (by omega)
        have e2 := u8z (128 + (c : Int) % 64) (by omega) (by omega)
        have f0 : (224 + (c : Int) / 4096).toNat = 224 + c / 4096 := by omega
        have f1 : (128 + (c : Int) / 64 % 64).toNat = 128 + c / 64 % 64 := by omega
        have f2 : (128 + (c : Int) % 64).toNat = 128 + c % 64 := by omega
        rw [f0] at e0; rw [f1] at e1; rw [f2] at e2
        refine ⟨?_, by rw [hr]; rfl, _, _, rfl, Or.inr ⟨by dsimp only; rw [f0, e0]; omega, by omega⟩⟩
        simp only [List.map_cons, List.map_nil, List.cons_append, List.nil_append, f0, f1, f2]
        have hu : usize (224 + c / 4096) = 3 := by unfold usize; rw [if_neg (by omega), if_neg (by omega), if_pos (by omega)]
        rw [uN_go _ _ 3 (by rw [e0]; exact hu) (by omega), hr]
        have hs : usec (224 + c / 4096) (128 + c / 64 % 64) = true := by
          unfold usec
          by_cases g1 : 224 + c / 4096 = 224
          · rw [if_pos g1]; simp; omega
          · rw [if_neg g1]
            by_cases g2 : 224 + c / 4096 = 237
            · rw [if_pos g2]; simp; omega
            · rw [if_neg g2, if_neg (by omega), if_neg (by omega)]; simp; omega
        rw [ugo_ok1 _ _ _ _ _ (by rw [e0, e1]; exact hs), ugo_ok _ _ _ _ _ _ (by omega) (by rw [e2]; omega), ugo, e0, e1, e2]
        simp; omega
      · rw [Lib.encodeRuneZ_four (by omega) (by omega)]
        have hr : rlen (c : Int) = 4 := by unfold rlen; rw [if_neg (by omega), if_neg (by omega), if_neg (by omega)]
        have e0 := u8z (240 + (c : Int) / 262144) (by omega) (by omega)
        have e1 := u8z (128 + (c : Int) / 4096 % 64) (by omega) (by omega)
        have e2 := u8z (128 + (c : Int) / 64 % 64) (by omega) (by omega)
        have e3 := u8z (128 + (c : Int) % 64) (by omega) (by omega)
        have f0 : (240 + (c : Int) / 262144).toNat = 240 + c / 262144 := by omega
        have f1 : (128 + (c : Int) / 4096 % 64).toNat = 128 + c / 4096 % 64 := by omega
        have f2 : (128 + (c : Int) / 64 % 64).toNat = 128 + c / 64 % 64 := by omega
        have f3 : (128 + (c : Int) % 64).toNat = 128 + c % 64 := by omega
        rw [f0] at e0; rw [f1] at e1; rw [f2] at e2; rw [f3] at e3
        refine ⟨?_, by rw [hr]; rfl, _, _, rfl, Or.inr ⟨by dsimp only; rw [f0, e0]; omega, by omega⟩⟩
        simp only [List.map_cons, List.map_nil, List.cons_append, List.nil_append, f0, f1, f2, f3]
        have hu : usize (240 + c / 262144) = 4 := by unfold usize; rw [if_neg (by omega), if_neg (by omega), if_neg (by omega), if_pos (by omega)]
        rw [uN_go _ _ 4 (by rw [e0]; exact hu) (by omega), hr]
        have hs : usec (240 + c / 262144) (128 + c / 4096 % 64) = true := by
          unfold usec
          rw [if_neg (by omega), if_neg (by omega)]
          by_cases g1 : 240 + c / 262144 = 240
          · rw [if_pos g1]; simp; omega
          · rw [if_neg g1]
            by_cases g2 : 240 + c / 262144 = 244
            · rw [if_pos g2]; simp; omega
            · rw [if_neg g2]; simp; omega
        rw [ugo_ok1 _ _ _ _ _ (by rw [e0, e1]; exact hs), ugo_ok _ _ _ _ _ _ (by omega) (by rw [e2]; omega), ugo_ok _ _ _ _ _ _ (by omega) (by rw [e3]; omega), ugo, e0, e1, e2, e3]
        simp; omega

/-- what is read without an error: as many bytes as the character has -/
theorem ugo_ok_inv (a k i c : Nat) (r : List UInt8) (hi : 1 ≤ i) (h : (ugo a (k + 1) i c r).2.2 = 0) : ∃ y q, r = y :: q ∧ ((i = 1 → usec a y.toNat = true) ∧ (1 < i → 128 ≤ y.toNat ∧ y.toNat ≤ 191)) ∧ ugo a (k + 1) i c r = ugo a k (i + 1) (64 * c + y.toNat - 128) q := by
  match r with
  | [] => simp [ugo] at h
  | y :: q =>
    rw [ugo] at h ⊢
    by_cases hc : (i = 1 ∧ usec a y.toNat = false) ∨ (1 < i ∧ (y.toNat < 128 ∨ 191 < y.toNat))
    · rw [if_pos hc] at h; simp at h
    · rw [if_neg hc]
      refine ⟨y, q, rfl, ⟨fun e => ?_, fun e => by omega⟩, rfl⟩
      cases hu : usec a y.toNat with
      | true => rfl
      | false => exact absurd (Or.inl ⟨e, hu⟩) hc
theorem usec_in (a c : Nat) (h : usec a c = true) : (128 ≤ c ∧ c ≤ 191) ∧ (a = 224 → 160 ≤ c) ∧ (a = 240 → 144 ≤ c) ∧ (a = 244 → c ≤ 143) := by
  unfold usec at h
  (repeat' split at h) <;> simp at h <;> omega
theorem uNext_ok (x : UInt8) (r : List UInt8) (h : (uNext (x :: r)).2.2 = 0) : (uNext (x :: r)).2.1 = rlen (uNext (x :: r)).1 := by
  have hx := b_lt x
  by_cases h0 : usize x.toNat = 0
  · rw [uNext, if_pos h0] at h; simp at h
  · by_cases h1 : usize x.toNat = 1
    · rw [uNext, if_neg h0, if_pos h1]
      have : x.toNat < 128 := by unfold usize at h1; (repeat' split at h1) <;> omega
      show 1 = rlen _
      unfold rlen; rw [if_pos (by omega)]
    · have hc : (usize x.toNat = 2 ∧ 194 ≤ x.toNat ∧ x.toNat ≤ 223) ∨ (usize x.toNat = 3 ∧ 224 ≤ x.toNat ∧ x.toNat ≤ 239) ∨ (usize x.toNat = 4 ∧ 240 ≤ x.toNat ∧ x.toNat ≤ 244) := by
        unfold usize at h0 h1 ⊢
        by_cases g1 : x.toNat < 128
        · rw [if_pos g1] at h1; omega
        · rw [if_neg g1] at h0 ⊢
          by_cases g2 : 194 ≤ x.toNat ∧ x.toNat ≤ 223
          · rw [if_pos g2]; omega
          · rw [if_neg g2] at h0 ⊢
            by_cases g3 : 224 ≤ x.toNat ∧ x.toNat ≤ 239
            · rw [if_pos g3]; omega
            · rw [if_neg g3] at h0 ⊢
              by_cases g4 : 240 ≤ x.toNat ∧ x.toNat ≤ 244
              · rw [if_pos g4]; omega
              · rw [if_neg g4] at h0; omega
      rcases hc with ⟨hu, hc⟩ | ⟨hu, hc⟩ | ⟨hu, hc⟩
      · rw [uN_go x r 2 hu (by omega)] at h ⊢
        obtain ⟨y, q, rfl, ⟨s1, _⟩, e1⟩ := ugo_ok_inv _ _ _ _ _ (by omega) h
        have s1' := usec_in _ _ (s1 rfl)
        rw [e1, ugo]; simp
        unfold rlen; rw [if_neg (by omega), if_pos (by omega)]
      · rw [uN_go x r 3 hu (by omega)] at h ⊢
        obtain ⟨y, q, rfl, ⟨s1, _⟩, e1⟩ := ugo_ok_inv _ _ _ _ _ (by omega) h
        rw [e1] at h ⊢
        obtain ⟨z, p, rfl, ⟨_, s2⟩, e2⟩ := ugo_ok_inv _ _ _ _ _ (by omega) h
        have s1' := usec_in _ _ (s1 rfl)
        have s2' := s2 (by omega)
        rw [e2, ugo]; simp
        unfold rlen; rw [if_neg (by omega), if_neg (by omega), if_pos (by omega)]
      · rw [uN_go x r 4 hu (by omega)] at h ⊢
        obtain ⟨y, q, rfl, ⟨s1, _⟩, e1⟩ := ugo_ok_inv _ _ _ _ _ (by omega) h
        rw [e1] at h ⊢
        obtain ⟨z, p, rfl, ⟨_, s2⟩, e2⟩ := ugo_ok_inv _ _ _ _ _ (by omega) h
        rw [e2] at h ⊢
        obtain ⟨u, t, rfl, ⟨_, s3⟩, e3⟩ := ugo_ok_inv _ _ _ _ _ (by omega) h
        have s1' := usec_in _ _ (s1 rfl)
        have s2' := s2 (by omega)
        have s3' := s3 (by omega)
        rw [e3, ugo]; simp
        unfold rlen; rw [if_neg (by omega), if_neg (by omega), if_neg (by omega)]

/-! ### what is read hangs on what is read -/
/-- two texts whose first bytes are the same, or none of them goes on a character -/
def Hd (t t' : List UInt8) : Prop := (t = [] ↔ t' = []) ∧ ∀ y q y' q', t = y :: q → t' = y' :: q' → y' = y ∨ ((y.toNat < 128 ∨ 194 ≤ y.toNat) ∧ (y'.toNat < 128 ∨ 194 ≤ y'.toNat))
theorem ugo_same (a : Nat) : ∀ (k i c : Nat) (r t' : List UInt8), 1 ≤ i → (ugo a k i c r).2.2 ≠ 7 → i ≤ (ugo a k i c r).2.1 ∧ ((ugo a k i c r).2.2 = 0 ∨ Hd (r.drop ((ugo a k i c r).2.1 - i)) t' → ugo a k i c (r.take ((ugo a k i c r).2.1 - i) ++ t') = ugo a k i c r)
  | 0, i, c, r, t', _, _ => by simp [ugo]
  | k + 1, i, c, [], t', _, h => by simp [ugo] at h
  | k + 1, i, c, y :: r, t', hi, h => by
    rw [ugo] at h ⊢
    by_cases hc : (i = 1 ∧ usec a y.toNat = false) ∨ (1 < i ∧ (y.toNat < 128 ∨ 191 < y.toNat))
    · rw [if_pos hc] at h ⊢
      simp only [Nat.sub_self, List.take_zero, List.nil_append, List.drop_zero, Nat.le_refl, true_and]
      intro h2
      have hd := h2.resolve_left (by simp)
      match t', hd with
      | [], hd => exact absurd (hd.1.2 rfl) (by simp)
      | y' :: q', hd =>
        have h3 := hd.2 y r y' q' rfl rfl
        rw [ugo]
        have hc' : (i = 1 ∧ usec a y'.toNat = false) ∨ (1 < i ∧ (y'.toNat < 128 ∨ 191 < y'.toNat)) := by
          rcases h3 with rfl | h3
          · exact hc
          · rcases hc with ⟨rfl, _⟩ | ⟨h4, _⟩
            · left
              refine ⟨rfl, ?_⟩
              cases hu : usec a y'.toNat with
              | false => rfl
              | true => have := (usec_in _ _ hu).1; omega
            · right; omega
        rw [if_pos hc']
    · rw [if_neg hc] at h ⊢
      have ih := ugo_same a k (i + 1) (64 * c + y.toNat - 128) r t' (by omega) h
      refine ⟨by omega, fun h2 => ?_⟩
      have hn : (ugo a k (i + 1) (64 * c + y.toNat - 128) r).2.1 - i = (ugo a k (i + 1) (64 * c + y.toNat - 128) r).2.1 - (i + 1) + 1 := by omega
      rw [hn] at h2 ⊢
      rw [List.take_succ_cons, List.cons_append, ugo, if_neg hc]
      exact ih.2 (by rw [List.drop_succ_cons] at h2; exact h2)
theorem uNext_same (x : UInt8) (r t' : List UInt8) (h7 : (uNext (x :: r)).2.2 ≠ 7) (h : (uNext (x :: r)).2.2 = 0 ∨ Hd ((x :: r).drop (uNext (x :: r)).2.1) t') : uNext ((x :: r).take (uNext (x :: r)).2.1 ++ t') = uNext (x :: r) := by
  by_cases h0 : usize x.toNat = 0
  · rw [uNext, if_pos h0]; simp [uNext, h0]
  · by_cases h1 : usize x.toNat = 1
    · rw [uNext, if_neg h0, if_pos h1]; simp [uNext, h1]
    · have h2 : 2 ≤ usize x.toNat := by omega
      rw [uN_go x r _ rfl h2] at h7 h ⊢
      have g := ugo_same x.toNat (usize x.toNat - 1) 1 (if usize x.toNat = 3 then x.toNat % 16 else if usize x.toNat = 4 then x.toNat % 8 else x.toNat % 32) r t' (by omega) h7
      generalize hP : ugo x.toNat (usize x.toNat - 1) 1 (if usize x.toNat = 3 then x.toNat % 16 else if usize x.toNat = 4 then x.toNat % 8 else x.toNat % 32) r = P at *
      obtain ⟨c, n, e⟩ := P
      simp only at h7 h g ⊢
      obtain ⟨m, rfl⟩ : ∃ m, n = m + 1 := ⟨n - 1, by omega⟩
      rw [List.take_succ_cons, List.cons_append, uN_go _ _ _ rfl h2]
      simp only [List.drop_succ_cons, Nat.add_sub_cancel] at h g ⊢
      exact g.2 h
theorem uNext_short (x : UInt8) (r : List UInt8) (h : (uNext (x :: r)).2.2 = 7) : (uNext (x :: r)).2.1 = (x :: r).length := by
  have g : ∀ (a k i c : Nat) (r : List UInt8), (ugo a k i c r).2.2 = 7 → (ugo a k i c r).2.1 = i + r.length := by
    intro a k
    induction k with
    | zero => intro i c r h; simp [ugo] at h
    | succ k ih =>
      intro i c r h
      match r with
      | [] => simp [ugo]
      | y :: q =>
        rw [ugo] at h ⊢
        split
        · rename_i hc; rw [if_pos hc] at h; simp at h
        · rename_i hc; rw [if_neg hc] at h; rw [ih _ _ _ h]; simp; omega
  rw [uNext] at h ⊢
  split
  · rename_i h0; rw [if_pos h0] at h; simp at h
  · rename_i h0
    rw [if_neg h0] at h
    split
    · rename_i h1; rw [if_pos h1] at h; simp at h
    · rename_i h1; rw [if_neg h1] at h; rw [g _ _ _ _ _ h]; simp; omega

/-! ### escape sequences -/
theorem escan_dich (l : List UInt8) (O : Bool) : ∀ (d i : Nat) (ot : Bool), (escan l O d i ot).2.2 = 0 →
    (i < (escan l O d i ot).2.1 ∧ (escan l O d i ot).2.1 ≤ l.length ∧ ∀ l' : List UInt8, l'.take (escan l O d i ot).2.1 = l.take (escan l O d i ot).2.1 → escan l' O d i ot = escan l O d i ot) ∨
    (i ≤ (escan l O d i ot).2.1 ∧ (escan l O d i ot).2.1 < l.length ∧ (∀ d', (escan (l.take (escan l O d i ot).2.1) O d' i ot).2.2 = 7) ∧
      ∀ l' : List UInt8, l'.take (escan l O d i ot).2.1 = l.take (escan l O d i ot).2.1 → (escan l O d i ot).2.1 < l'.length → (l'.getD (escan l O d i ot).2.1 0 = l.getD (escan l O d i ot).2.1 0 ∨ (128 ≤ (l.getD (escan l O d i ot).2.1 0).toNat ∧ 128 ≤ (l'.getD (escan l O d i ot).2.1 0).toNat)) → escan l' O d i ot = escan l O d i ot)
  | 0, i, ot, h => by simp [escan] at h
  | d + 1, i, ot, h => by
    have getT : ∀ (l' : List UInt8) (n : Nat), i < n → l'.take n = l.take n → l'.getD i 0 = l.getD i 0 := by
      intro l' n hn e
      have := congrArg (fun q : List UInt8 => q.getD i 0) e
      simpa [List.getD_eq_getElem?_getD, List.getElem?_take_of_lt hn] using this
    have lenT : ∀ (l' : List UInt8) (n : Nat), i < n → i < l.length → l'.take n = l.take n → i < l'.length := by
      intro l' n hn hl e
      have := congrArg List.length e
      simp only [List.length_take] at this
      omega
    have takeT : ∀ (l' : List UInt8) (n m : Nat), m ≤ n → l'.take n = l.take n → l'.take m = l.take m := by
      intro l' n m hm e
      have := congrArg (List.take m) e
      simpa [List.take_take, Nat.min_eq_left hm] using this
    by_cases hl : i < l.length
    · by_cases h1 : 64 ≤ (l.getD i 0).toNat ∧ (l.getD i 0).toNat ≤ 126
      · left
        have e : escan l O (d + 1) i ot = (ekey (l.take (i + 1)), i + 1, 0) := by rw [escan, if_pos hl, if_pos h1]
        rw [e]
        refine ⟨by simp, by simp; omega, fun l' hl' => ?_⟩
        simp only at hl'
        have g := getT l' _ (by omega) hl'
        rw [escan, if_pos (lenT l' _ (by omega) hl hl'), g, if_pos h1, hl']
      · by_cases h2 : O = true ∨ 34 ≤ i
        · right
          have e : escan l O (d + 1) i ot = (15, i, 0) := by rw [escan, if_pos hl, if_neg h1, if_pos h2]
          rw [e]
          refine ⟨Nat.le_refl _, hl, fun d' => ?_, fun l' hl' hn hd => ?_⟩
          · cases d' with
            | zero => rfl
            | succ d' => rw [escan, if_neg (by simp; omega)]
          · simp only at hn hd
            rw [escan, if_pos hn, if_neg (by rcases hd with hd | hd; (· rw [hd]; exact h1); (· omega)), if_pos h2]
        · by_cases h3 : (48 ≤ (l.getD i 0).toNat ∧ (l.getD i 0).toNat ≤ 63) ∧ ot = false
          · have e : escan l O (d + 1) i ot = escan l O d (i + 1) ot := by rw [escan, if_pos hl, if_neg h1, if_neg h2, if_pos h3]
            rw [e] at h ⊢
            rcases escan_dich l O d (i + 1) ot h with ⟨a, b, f⟩ | ⟨a, b, g, f⟩
            · left
              refine ⟨by omega, b, fun l' hl' => ?_⟩
              rw [escan, if_pos (lenT l' _ (by omega) hl hl'), getT l' _ (by omega) hl', if_neg h1, if_neg h2, if_pos h3]
              exact f l' hl'
            · right
              refine ⟨by omega, b, fun d' => ?_, fun l' hl' hn hd => ?_⟩
              · cases d' with
                | zero => rfl
                | succ d' =>
                  rw [escan]
                  by_cases hh : i < (l.take (escan l O d (i + 1) ot).2.1).length
                  · rw [if_pos hh, getT (l.take _) _ (show i < (escan l O d (i + 1) ot).2.1 by omega) (by rw [List.take_take, Nat.min_self]), if_neg h1, if_neg h2, if_pos h3]
                    exact g d'
                  · rw [if_neg hh]
              · rw [escan, if_pos (lenT l' _ (by omega) hl hl'), getT l' _ (by omega) hl', if_neg h1, if_neg h2, if_pos h3]
                exact f l' hl' hn hd
          · by_cases h4 : 32 ≤ (l.getD i 0).toNat ∧ (l.getD i 0).toNat ≤ 47
            · have e : escan l O (d + 1) i ot = escan l O d (i + 1) true := by rw [escan, if_pos hl, if_neg h1, if_neg h2, if_neg h3, if_pos h4]
              rw [e] at h ⊢
              rcases escan_dich l O d (i + 1) true h with ⟨a, b, f⟩ | ⟨a, b, g, f⟩
              · left
                refine ⟨by omega, b, fun l' hl' => ?_⟩
                rw [escan, if_pos (lenT l' _ (by omega) hl hl'), getT l' _ (by omega) hl', if_neg h1, if_neg h2, if_neg h3, if_pos h4]
                exact f l' hl'
              · right
                refine ⟨by omega, b, fun d' => ?_, fun l' hl' hn hd => ?_⟩
                · cases d' with
                  | zero => rfl
                  | succ d' =>
                    rw [escan]
                    by_cases hh : i < (l.take (escan l O d (i + 1) true).2.1).length
                    · rw [if_pos hh, getT (l.take _) _ (show i < (escan l O d (i + 1) true).2.1 by omega) (by rw [List.take_take, Nat.min_self]), if_neg h1, if_neg h2, if_neg h3, if_pos h4]
                      exact g d'
                    · rw [if_neg hh]
                · rw [escan, if_pos (lenT l' _ (by omega) hl hl'), getT l' _ (by omega) hl', if_neg h1, if_neg h2, if_neg h3, if_pos h4]
                  exact f l' hl' hn hd
            · right
              have e : escan l O (d + 1) i ot = (15, i, 0) := by rw [escan, if_pos hl, if_neg h1, if_neg h2, if_neg h3, if_neg h4]
              rw [e]
              refine ⟨Nat.le_refl _, hl, fun d' => ?_, fun l' hl' hn hd => ?_⟩
              · cases d' with
                | zero => rfl
                | succ d' => rw [escan, if_neg (by simp; omega)]
              · simp only at hn hd
                rw [escan, if_pos hn, if_neg (by rcases hd with hd | hd; (· rw [hd]; exact h1); (· omega)), if_neg h2,
                  if_neg (by rcases hd with hd | hd; (· rw [hd]; exact h3); (· omega)), if_neg (by rcases hd with hd | hd; (· rw [hd]; exact h4); (· omega))]
    · rw [escan, if_neg hl] at h; simp at h
/-- two texts whose first bytes are the same, or beyond 127 -/
def Hi (t t' : List UInt8) : Prop := t.length = t'.length ∧ ∀ y q y' q', t = y :: q → t' = y' :: q' → y' = y ∨ (128 ≤ y.toNat ∧ 128 ≤ y'.toNat)

theorem getD_app (a t : List UInt8) (n : Nat) (h : a.length = n) : (a ++ t).getD n 0 = t.getD 0 0 := by
  subst h; simp [List.getD_eq_getElem?_getD, List.getElem?_append_right (Nat.le_refl a.length)]
theorem eNext_same (x : UInt8) (r t' : List UInt8) (hx : x.toNat = 27) (h0 : (eNext (x :: r)).2.2 = 0) (hlen : ((x :: r).drop (eNext (x :: r)).2.1).length = t'.length)
    (h : ebeg ((x :: r).take (eNext (x :: r)).2.1) = true → Hi ((x :: r).drop (eNext (x :: r)).2.1) t') : eNext ((x :: r).take (eNext (x :: r)).2.1 ++ t') = eNext (x :: r) := by
  match r with
  | [] => rw [eNext, if_pos hx] at h0; simp at h0
  | y :: r =>
    by_cases hy : y.toNat ≠ 91 ∧ y.toNat ≠ 79
    · have e : eNext (x :: y :: r) = (15, 1, 0) := by rw [eNext, if_pos hx, if_pos hy]
      rw [e] at h hlen ⊢
      simp only [List.take_succ_cons, List.take_zero, List.drop_succ_cons, List.drop_zero, List.cons_append, List.nil_append] at h hlen ⊢
      have hb : ebeg [x] = true := by unfold ebeg; rw [eNext, if_pos hx]; rfl
      have hh := h hb
      match t' with
      | [] => simp at hlen
      | y' :: q' =>
        rw [eNext, if_pos hx, if_pos ?_]
        rcases hh.2 y r y' q' rfl rfl with rfl | h3
        · exact hy
        · omega
    · have e : eNext (x :: y :: r) = escan (x :: y :: r) (decide (y.toNat = 79)) (r.length + 1) 2 false := by rw [eNext, if_pos hx, if_neg hy]
      rw [e] at h h0 hlen ⊢
      have hbe : ∀ n, 2 ≤ n → (∀ d', (escan ((x :: y :: r).take n) (decide (y.toNat = 79)) d' 2 false).2.2 = 7) → ebeg ((x :: y :: r).take n) = true := by
        intro n hn hd
        obtain ⟨m, rfl⟩ : ∃ m, n = m + 2 := ⟨n - 2, by omega⟩
        unfold ebeg
        rw [List.take_succ_cons, List.take_succ_cons, eNext, if_pos hx, if_neg hy]
        have := hd ((r.take m).length + 1)
        rw [List.take_succ_cons, List.take_succ_cons] at this
        rw [this]; rfl
      have hgo : ∀ n, 2 ≤ n → n ≤ (x :: y :: r).length → ((x :: y :: r).drop n).length = t'.length → eNext ((x :: y :: r).take n ++ t') = escan ((x :: y :: r).take n ++ t') (decide (y.toNat = 79)) (r.length + 1) 2 false := by
        intro n hn hnl hlen
        obtain ⟨m, rfl⟩ : ∃ m, n = m + 2 := ⟨n - 2, by omega⟩
        rw [List.take_succ_cons, List.take_succ_cons, List.cons_append, List.cons_append, eNext, if_pos hx, if_neg hy]
        congr 1
        simp at hlen hnl ⊢; omega
      rcases escan_dich (x :: y :: r) (decide (y.toNat = 79)) (r.length + 1) 2 false h0 with ⟨a, b, f⟩ | ⟨a, b, g, f⟩
      · rw [hgo _ (by omega) b hlen]
        refine f _ ?_
        rw [List.take_append_of_le_length (by rw [List.length_take]; omega), List.take_take, Nat.min_self]
      · rw [hgo _ (by omega) (by omega) hlen]
        have hh := h (hbe _ a g)
        refine f _ ?_ ?_ ?_
        · rw [List.take_append_of_le_length (by rw [List.length_take]; omega), List.take_take, Nat.min_self]
        · rw [List.length_append, List.length_take, ← hlen, List.length_drop]; omega
        · generalize (escan (x :: y :: r) (decide (y.toNat = 79)) (r.length + 1) 2 false).2.1 = n at *
          rw [getD_app _ _ _ (by rw [List.length_take]; omega)]
          cases hd : (x :: y :: r).drop n with
          | nil => have := congrArg List.length hd; rw [List.length_drop] at this; simp at this b; omega
          | cons u q =>
            have hun : (x :: y :: r).getD n 0 = u := by
              have := congrArg (fun l : List UInt8 => l.getD 0 0) hd
              simp only [List.getD_eq_getElem?_getD, List.getElem?_drop, Nat.add_zero] at this ⊢
              simpa using this
            rw [hun]
            match t' with
            | [] => rw [hd] at hlen; simp at hlen
            | u' :: q' =>
              rcases hh.2 u q u' q' hd rfl with rfl | h3
              · left; rfl
              · right; exact h3

/-! ### the twin, as one goes on -/
def twR (by_ : Int) : Nat → List UInt8 → Bool → List UInt8
  | _, [], _ => []
  | 0, x :: r, _ => x :: r
  | d + 1, x :: r, br =>
    if x.toNat = 27 then
      if (eNext (x :: r)).2.2 ≠ 0 then x :: r else (x :: r).take (eNext (x :: r)).2.1 ++ twR by_ d ((x :: r).drop (eNext (x :: r)).2.1) (ebeg ((x :: r).take (eNext (x :: r)).2.1))
    else if (uNext (x :: r)).2.2 = 0 ∧ uprint (uNext (x :: r)).1 = true ∧ (1 < (uNext (x :: r)).2.1 ∨ br = false) then
      ub (turnM (uNext (x :: r)).1 by_) ++ twR by_ d ((x :: r).drop (uNext (x :: r)).2.1) false
    else (x :: r).take (uNext (x :: r)).2.1 ++ twR by_ d ((x :: r).drop (uNext (x :: r)).2.1) false
theorem twR_nil (by_ : Int) (d : Nat) (br : Bool) : twR by_ d [] br = [] := by cases d <;> rfl
theorem turn_nat (c : Nat) (by_ : Int) (h : uprint c = true) : ∃ t : Nat, turnM c by_ = t ∧ uprint (t : Int) = true ∧ rlen (t : Int) = rlen c ∧ (128 ≤ c ↔ 128 ≤ t) := by
  obtain ⟨h1, h2, h3⟩ := turn_same c by_ h
  have h4 : 0 ≤ turnM c by_ := by unfold uprint ufine at h1; simp at h1; omega
  obtain ⟨t, ht⟩ := Int.eq_ofNat_of_zero_le h4
  refine ⟨t, ht, ?_, ?_, ?_⟩
  · rw [ht] at h1; exact h1
  · rw [ht] at h2; exact h2
  · rw [ht] at h3; have : (128 : Int) ≤ (t : Int) ↔ 128 ≤ t := by omega
    have h5 : (128 : Int) ≤ (c : Int) ↔ 128 ≤ c := by omega
    omega
theorem ub_len (c : Nat) (by_ : Int) (h : uprint c = true) : (ub (turnM c by_)).length = rlen c := by
  obtain ⟨t, h1, h2, h3, _⟩ := turn_nat c by_ h
  rw [h1, (uNext_ub t h2 []).2.1, h3]
theorem twR_len (by_ : Int) : ∀ (d : Nat) (s : List UInt8) (br : Bool), (twR by_ d s br).length = s.length
  | d, [], br => by rw [twR_nil]
  | 0, x :: r, br => rfl
  | d + 1, x :: r, br => by
    rw [twR]
    have hn := uNext_len x r
    split
    · rename_i hx
      have he := eNext_len x r hx
      split
      · rfl
      · rw [List.length_append, twR_len by_ d, List.length_take, List.length_drop]; omega
    · split
      · rename_i h
        rw [List.length_append, twR_len by_ d, List.length_drop, ub_len _ _ h.2.1, ← uNext_ok x r h.1]; omega
      · rw [List.length_append, twR_len by_ d, List.length_take, List.length_drop]; omega
theorem putAt_mid (p s xs : List UInt8) (h : xs.length ≤ s.length) : putAt (p ++ s) p.length xs = p ++ (xs ++ s.drop xs.length) := by
  unfold putAt
  have e : (p ++ s).length - p.length = s.length := by simp
  rw [e, List.take_of_length_le (l := xs) h, List.take_left, List.append_assoc]
  congr 2
  rw [List.drop_append]
  simp
theorem twPut_secM (by_ : Int) : ∀ (d : Nat) (p s : List UInt8) (br : Bool), twPut by_ (p ++ s) (secM d s p.length br) = p ++ twR by_ d s br
  | d, p, [], br => by rw [secM_nil, twR_nil]; rfl
  | 0, p, x :: r, br => rfl
  | d + 1, p, x :: r, br => by
    have step : ∀ n br', n ≤ (x :: r).length → twPut by_ (p ++ x :: r) (secM d ((x :: r).drop n) (p.length + n) br') = p ++ ((x :: r).take n ++ twR by_ d ((x :: r).drop n) br') := by
      intro n br' hn
      have := twPut_secM by_ d (p ++ (x :: r).take n) ((x :: r).drop n) br'
      rw [List.append_assoc, List.take_append_drop, List.length_append, List.length_take, Nat.min_eq_left hn, List.append_assoc] at this
      exact this
    have hn := uNext_len x r
    rw [secM, twR]
    split
    · rename_i hx
      have he := eNext_len x r hx
      split
      · rfl
      · exact step _ _ he.1.2
    · split
      · rename_i h
        have hl := ub_len (uNext (x :: r)).1 by_ h.2.1
        have ho := uNext_ok x r h.1
        show twPut by_ (putAt (p ++ x :: r) p.length (ub (turnM (uNext (x :: r)).1 by_))) _ = _
        rw [putAt_mid _ _ _ (by omega)]
        have := twPut_secM by_ d (p ++ ub (turnM (uNext (x :: r)).1 by_)) ((x :: r).drop (uNext (x :: r)).2.1) false
        rw [List.length_append, hl, ← ho, List.append_assoc, List.append_assoc] at this
        rw [hl, ← ho]
        exact this
      · exact step _ _ hn.1.2
theorem twinM_eq (by_ : Int) (l : List UInt8) : twinM by_ l = twR by_ l.length l false := twPut_secM by_ l.length [] l false
theorem twinM_len (by_ : Int) (l : List UInt8) : (twinM by_ l).length = l.length := by rw [twinM_eq, twR_len]

theorem usize_hi (a : Nat) (h0 : usize a ≠ 0) (h1 : usize a ≠ 1) : 194 ≤ a := by
  unfold usize at h0 h1
  by_cases g1 : a < 128
  · rw [if_pos g1] at h1; omega
  · rw [if_neg g1] at h0
    by_cases g2 : 194 ≤ a ∧ a ≤ 223
    · omega
    · rw [if_neg g2] at h0
      by_cases g3 : 224 ≤ a ∧ a ≤ 239
      · omega
      · rw [if_neg g3] at h0
        by_cases g4 : 240 ≤ a ∧ a ≤ 244
        · omega
        · rw [if_neg g4] at h0; omega
theorem twR_head (by_ : Int) (d : Nat) (s : List UInt8) (br : Bool) (hd : s.length ≤ d) : Hd s (twR by_ d s br) ∧ (br = true → Hi s (twR by_ d s br)) := by
  have hl := twR_len by_ d s br
  match s, d with
  | [], d => rw [twR_nil]; exact ⟨⟨Iff.rfl, fun _ _ _ _ h => nomatch h⟩, fun _ => ⟨rfl, fun _ _ _ _ h => nomatch h⟩⟩
  | x :: r, 0 => simp at hd
  | x :: r, d + 1 =>
    have key : ∃ y' q', twR by_ (d + 1) (x :: r) br = y' :: q' ∧ (y' = x ∨ ((x.toNat < 128 ∨ 194 ≤ x.toNat) ∧ (y'.toNat < 128 ∨ 194 ≤ y'.toNat)) ∧ (br = true → 128 ≤ x.toNat ∧ 128 ≤ y'.toNat)) := by
      have same : ∀ n q, 1 ≤ n → ∃ q', (x :: r).take n ++ q = x :: q' := by
        intro n q h; obtain ⟨m, rfl⟩ : ∃ m, n = m + 1 := ⟨n - 1, by omega⟩; exact ⟨_, rfl⟩
      have hn := uNext_len x r
      rw [twR]
      split
      · rename_i hx
        have he := eNext_len x r hx
        split
        · exact ⟨_, _, rfl, Or.inl rfl⟩
        · obtain ⟨q', e⟩ := same (eNext (x :: r)).2.1 (twR by_ d ((x :: r).drop (eNext (x :: r)).2.1) (ebeg ((x :: r).take (eNext (x :: r)).2.1))) (by omega)
          exact ⟨_, _, e, Or.inl rfl⟩
      · split
        · rename_i h
          obtain ⟨t, t1, t2, t3, t4⟩ := turn_nat (uNext (x :: r)).1 by_ h.2.1
          obtain ⟨_, _, y, q, hy, hyc⟩ := uNext_ub t t2 []
          rw [t1, hy]
          have hxx : (x.toNat = (uNext (x :: r)).1 ∧ x.toNat < 128) ∨ (194 ≤ x.toNat ∧ 128 ≤ (uNext (x :: r)).1) := by
            have ho := uNext_ok x r h.1
            have h0 := h.1
            have hx8 := b_lt x
            by_cases g0 : usize x.toNat = 0
            · rw [uNext, if_pos g0] at h0; simp at h0
            · by_cases g1 : usize x.toNat = 1
              · left
                rw [uNext, if_neg g0, if_pos g1]
                refine ⟨rfl, ?_⟩
                unfold usize at g1; (repeat' split at g1) <;> omega
              · right
                refine ⟨usize_hi _ g0 g1, ?_⟩
                have hge : 2 ≤ (uNext (x :: r)).2.1 := by
                  rw [uN_go x r _ rfl (by omega)] at h0 ⊢
                  obtain ⟨k, hk⟩ : ∃ k, usize x.toNat - 1 = k + 1 := ⟨usize x.toNat - 2, by omega⟩
                  rw [hk] at h0 ⊢
                  obtain ⟨y, q, rfl, _, e⟩ := ugo_ok_inv _ _ _ _ _ (by omega) h0
                  rw [e]
                  exact (ugo_len _ _ _ _ _).1.1
                rw [ho] at hge
                unfold rlen at hge
                by_cases hh : (((uNext (x :: r)).1 : Nat) : Int) < 128
                · rw [if_pos hh] at hge; omega
                · omega
          refine ⟨y, _, rfl, Or.inr ⟨⟨by omega, by omega⟩, fun hb => ?_⟩⟩
          have h1 : 1 < (uNext (x :: r)).2.1 := by
            rcases h.2.2 with h1 | h1
            · exact h1
            · rw [h1] at hb; cases hb
          rw [uNext_ok x r h.1] at h1
          unfold rlen at h1
          by_cases hh : (((uNext (x :: r)).1 : Nat) : Int) < 128
          · rw [if_pos hh] at h1; omega
          · omega
        · obtain ⟨q', e⟩ := same (uNext (x :: r)).2.1 (twR by_ d ((x :: r).drop (uNext (x :: r)).2.1) false) (by omega)
          exact ⟨_, _, e, Or.inl rfl⟩
    obtain ⟨y', q', e, hk⟩ := key
    rw [e] at hl ⊢
    refine ⟨⟨by simp, fun y q y2 q2 h1 h2 => ?_⟩, fun hb => ⟨hl.symm, fun y q y2 q2 h1 h2 => ?_⟩⟩
    · injection h1 with h1 _; injection h2 with h2 _; subst h1; subst h2
      rcases hk with hk | hk
      · exact Or.inl hk
      · exact Or.inr hk.1
    · injection h1 with h1 _; injection h2 with h2 _; subst h1; subst h2
      rcases hk with hk | hk
      · exact Or.inl hk
      · exact Or.inr (hk.2 hb)

theorem rdM_same {d : Nat} {x x' : UInt8} {r r' : List UInt8} {p : Bool} (n : Nat) (he : (kStep x r p).2.2 = 0) (he' : (kStep x' r' p).2.2 = 0) (hn : (kStep x r p).2.1 = n) (hn' : (kStep x' r' p).2.1 = n)
    (hk : (kStep x r p).1.1 = (kStep x' r' p).1.1 ∧ rlen (kStep x r p).1.2 = rlen (kStep x' r' p).1.2)
    (h : ∀ q, SameRead (rdM d ((x :: r).drop n) q) (rdM d ((x' :: r').drop n) q)) : SameRead (rdM (d + 1) (x :: r) p) (rdM (d + 1) (x' :: r') p) := by
  rw [rdM, rdM, if_neg (by simpa using he), if_neg (by simpa using he'), hn, hn', ← hk.1]
  exact SameRead.cons hk (h _)
theorem same_read (by_ : Int) : ∀ (d : Nat) (s : List UInt8) (br p : Bool), s.length ≤ d → SameRead (rdM d s p) (rdM d (twR by_ d s br) p)
  | d, [], br, p, _ => by rw [twR_nil]; exact SameRead.refl _
  | 0, x :: r, br, p, h => by simp at h
  | d + 1, x :: r, br, p, hd => by
    have hn := uNext_len x r
    have hdl : (x :: r).length ≤ d + 1 := hd
    -- a text that begins as the old one does
    have keep : ∀ (n : Nat) (t' : List UInt8), 1 ≤ n → n ≤ (x :: r).length → ∃ r', (x :: r).take n ++ t' = x :: r' ∧ (x :: r').drop n = t' := by
      intro n t' h1 h2
      obtain ⟨m, rfl⟩ : ∃ m, n = m + 1 := ⟨n - 1, by omega⟩
      refine ⟨r.take m ++ t', rfl, ?_⟩
      simp at h2
      rw [List.drop_succ_cons]
      exact List.drop_left' (by rw [List.length_take]; omega)
    by_cases hx : x.toNat = 27
    · have he := eNext_len x r hx
      by_cases h0 : (eNext (x :: r)).2.2 = 0
      · have ew : twR by_ (d + 1) (x :: r) br = (x :: r).take (eNext (x :: r)).2.1 ++ twR by_ d ((x :: r).drop (eNext (x :: r)).2.1) (ebeg ((x :: r).take (eNext (x :: r)).2.1)) := by rw [twR, if_pos hx, if_neg (by simpa using h0)]
        have hdd : ((x :: r).drop (eNext (x :: r)).2.1).length ≤ d := by rw [List.length_drop]; omega
        have hhd := twR_head by_ d ((x :: r).drop (eNext (x :: r)).2.1) (ebeg ((x :: r).take (eNext (x :: r)).2.1)) hdd
        have hs := eNext_same x r _ hx h0 (twR_len by_ d ((x :: r).drop (eNext (x :: r)).2.1) (ebeg ((x :: r).take (eNext (x :: r)).2.1))).symm hhd.2
        have ih := fun q => same_read by_ d ((x :: r).drop (eNext (x :: r)).2.1) (ebeg ((x :: r).take (eNext (x :: r)).2.1)) q hdd
        rw [ew]
        generalize twR by_ d ((x :: r).drop (eNext (x :: r)).2.1) (ebeg ((x :: r).take (eNext (x :: r)).2.1)) = t' at *
        obtain ⟨r', e1, e2⟩ := keep (eNext (x :: r)).2.1 t' he.1.1 he.1.2
        rw [e1] at hs ⊢
        have hk : kStep x r' p = kStep x r p := by rw [kStep, kStep, if_pos hx, if_pos hx, hs]
        have hkn : (kStep x r p).2.1 = (eNext (x :: r)).2.1 := by rw [kStep, if_pos hx]
        have hke : (kStep x r p).2.2 = 0 := by rw [kStep, if_pos hx]; exact h0
        refine rdM_same (eNext (x :: r)).2.1 hke (by rw [hk]; exact hke) hkn (by rw [hk]; exact hkn) (by rw [hk]; exact ⟨rfl, rfl⟩) fun q => ?_
        rw [e2]; exact ih q
      · have ew : twR by_ (d + 1) (x :: r) br = x :: r := by rw [twR, if_pos hx, if_pos h0]
        rw [ew]; exact SameRead.refl _
    · by_cases h7 : (uNext (x :: r)).2.2 = 7
      · have hs := uNext_short x r h7
        have ew : twR by_ (d + 1) (x :: r) br = x :: r := by
          rw [twR, if_neg hx, if_neg (by omega), hs, List.drop_length, List.take_length, twR_nil, List.append_nil]
        rw [ew]; exact SameRead.refl _
      · have hdd : ((x :: r).drop (uNext (x :: r)).2.1).length ≤ d := by rw [List.length_drop]; omega
        have hhd := twR_head by_ d ((x :: r).drop (uNext (x :: r)).2.1) false hdd
        have ih := fun q => same_read by_ d ((x :: r).drop (uNext (x :: r)).2.1) false q hdd
        by_cases hc : (uNext (x :: r)).2.2 = 0 ∧ uprint (uNext (x :: r)).1 = true ∧ (1 < (uNext (x :: r)).2.1 ∨ br = false)
        · have ew : twR by_ (d + 1) (x :: r) br = ub (turnM (uNext (x :: r)).1 by_) ++ twR by_ d ((x :: r).drop (uNext (x :: r)).2.1) false := by rw [twR, if_neg hx, if_pos hc]
          have hul := ub_len (uNext (x :: r)).1 by_ hc.2.1
          have ho := uNext_ok x r hc.1
          rw [ew]
          generalize twR by_ d ((x :: r).drop (uNext (x :: r)).2.1) false = t' at *
          obtain ⟨t, t1, t2, t3, t4⟩ := turn_nat (uNext (x :: r)).1 by_ hc.2.1
          obtain ⟨u1, u2, y, q, hy, hyc⟩ := uNext_ub t t2 t'
          have hy27 : y.toNat ≠ 27 := by
            have : 32 ≤ t := by unfold uprint ufine at t2; simp at t2; omega
            omega
          rw [t1] at hul ⊢
          have hd2 : (ub (t : Int) ++ t').drop (uNext (x :: r)).2.1 = t' := List.drop_left' (by rw [hul, ho])
          rw [hy] at u1 hd2 ⊢
          rw [List.cons_append] at u1 hd2 ⊢
          have k1 : kStep x r p = ((0, ((uNext (x :: r)).1 : Int)), (uNext (x :: r)).2.1, 0) := by
            have hk : kOf ((uNext (x :: r)).1 : Int) = (0, ((uNext (x :: r)).1 : Int)) := by rw [kOf, if_pos hc.2.1]
            rw [kStep, if_neg hx, hc.1]; simp [hk]
          have k2 : kStep y (q ++ t') p = ((0, (t : Int)), (uNext (x :: r)).2.1, 0) := by
            have hk : kOf (t : Int) = (0, (t : Int)) := by rw [kOf, if_pos t2]
            rw [kStep, if_neg hy27, u1]
            simp [hk, t3, ← ho]
          refine rdM_same (uNext (x :: r)).2.1 (by rw [k1]) (by rw [k2]) (by rw [k1]) (by rw [k2]) (by rw [k1, k2]; exact ⟨rfl, t3.symm⟩) fun q' => ?_
          rw [hd2]; exact ih q'
        · have ew : twR by_ (d + 1) (x :: r) br = (x :: r).take (uNext (x :: r)).2.1 ++ twR by_ d ((x :: r).drop (uNext (x :: r)).2.1) false := by rw [twR, if_neg hx, if_neg hc]
          have hs := uNext_same x r _ h7 (Or.inr hhd.1)
          rw [ew]
          generalize twR by_ d ((x :: r).drop (uNext (x :: r)).2.1) false = t' at *
          obtain ⟨r', e1, e2⟩ := keep (uNext (x :: r)).2.1 t' hn.1.1 hn.1.2
          rw [e1] at hs ⊢
          have hk : kStep x r' p = kStep x r p := by rw [kStep, kStep, if_neg hx, if_neg hx, hs]
          have hkn : (kStep x r p).2.1 = (uNext (x :: r)).2.1 := by rw [kStep, if_neg hx]
          have hke : (kStep x r p).2.2 = 0 := by
            rw [kStep, if_neg hx]
            simp only
            split
            · rfl
            · omega
          refine rdM_same (uNext (x :: r)).2.1 hke (by rw [hk]; exact hke) hkn (by rw [hk]; exact hkn) (by rw [hk]; exact ⟨rfl, rfl⟩) fun q => ?_
          rw [e2]; exact ih q
theorem rdM_few : ∀ (d : Nat) (s : List UInt8) (p : Bool), (rdM d s p).1.length ≤ d
  | 0, [], p => by simp [rdM]
  | d + 1, [], p => by simp [rdM]
  | 0, x :: r, p => by simp [rdM]
  | d + 1, x :: r, p => by
    rw [rdM]
    split
    · simp
    · have := rdM_few d ((x :: r).drop (kStep x r p).2.1) (pNext (kStep x r p).1.1 p)
      simp only [List.length_cons]; omega
theorem readM_few (l : List UInt8) : (readM l).1.length ≤ l.length := rdM_few _ _ _
theorem kc_at (l : List (Int × Int)) (i : Nat) (x : Int × Int) (h : l[i]? = some x) : (kc l)[i * 2]? = some (.int .i64 x.1) ∧ (kc l)[i * 2 + 1]? = some (.int .i64 x.2) := by
  induction l generalizing i with
  | nil => simp at h
  | cons y r ih =>
    cases i with
    | zero => simp at h; subst h; simp [kc]
    | succ i =>
      simp at h
      have := ih i h
      rw [show (i + 1) * 2 = i * 2 + 2 by omega, show i * 2 + 2 + 1 = (i * 2 + 1) + 2 by omega]
      simpa [kc] using this
theorem read_twin (by_ : Int) (l : List UInt8) : SameRead (readM l) (readM (twinM by_ l)) := by
  unfold readM
  rw [twinM_len, twinM_eq]
  exact same_read by_ l.length l false false (Nat.le_refl _)
end Go.Proofs.YtnogcpjfgnpbbaaDoor
