/- The contracts of the library's Clone functions. Conditions: sizes within what a machine holds. -/
import Derived.Test.YtnogcpjfgnpbbaaDoorPlan
set_option linter.unusedSimpArgs false
set_option linter.unusedVariables false
namespace Go.Proofs.YtnogcpjfgnpbbaaDoor
open Go.RowKit

theorem info_u8 : (Tryd.prog.info? 5).map (fun i => (i.zero, i.size, i.bytes)) = some (some (.int .u8 0), 1, 1) := by kernel_rfl

set_option maxHeartbeats 400000 in
theorem bytesClone_any (w : World) (A : Option Addr) (n c : Nat) (l : List UInt8) (h : Rd w A n c l) (hn : n ≤ 140737488355328) :
    Calls Tryd.prog 13 #[.slice A n c] w fun e w' => ∃ v, e = .returned v ∧ w'.ownsRow w.heap.size 5 1 v n (bc l) ∧ (v = .slice none 0 0 ↔ A = none) ∧ Below w.heap.size w w' := by
  cases A with
  | none =>
    obtain ⟨rfl, rfl⟩ := h.nil rfl
    have hl : l = [] := List.eq_nil_of_length_eq_zero h.len
    subst hl
    have hq := fun (w : World) => Lib.run_eql_slice_nil (P := Tryd.prog) w 22 5 none 0 0 0 0 Tryd.underlying22
    go_enter Tryd.func13, Tryd.ntmps13
    go_wp2
    go_ret
    exact ⟨_, rfl, owns_nil _ _ _ _, by simp, Below.refl _ _⟩
  | some ad =>
    have hq := fun (w : World) => Lib.run_eql_slice_nil (P := Tryd.prog) w 22 5 (some ad) n c 0 0 Tryd.underlying22
    have hh := Lib.hid h
    have hbig := h.big; have hle := h.le
    clear h
    go_enter Tryd.func13, Tryd.ntmps13
    go_wp2_with (at_builtin; refine wpList_append_rd rfl _ _ 22 rfl w.heap.size 5 Tryd.underlying22 info_u8 (.slice (some ⟨w.heap.size, 0, none⟩) 0 0) 0 [] rfl (owns_empty w _ _ _ (Nat.le_refl _)) (some ad) n c l rfl (hh.out.below ((Below.refl _ w).alloc (Nat.le_refl _) _)) (by omega) (by simp) ?_; intro v' w1 ho hg hnil)
    go_ret
    refine ⟨_, rfl, by simpa using ho, by simp [hnil], ?_⟩
    exact ((Below.refl _ w).alloc (Nat.le_refl _) _).grown hg (by simp) (by simp [Value.ownBlock])

/-- a slice of numbers that is read -/
structure Nm (w : World) (A : Option Addr) (n c : Nat) (l : List Int) : Prop where
  len : l.length = n
  le : n ≤ c
  big : c * 8 ≤ 140737488355328
  nil : A = none → n = 0 ∧ c = 0
  spot : ∀ ad, A = some ad → ad.spot = none
  cell : ∀ b off, A = some ⟨b, off, none⟩ → ∀ j x, l[j]? = some x → w.cell? ⟨b, off + j, none⟩ = some (.int .i64 x)

theorem Nm.below {w w' : World} {A : Option Addr} {n c : Nat} {l : List Int} (h : Nm w A n c l) (hb : Below w.heap.size w w') : Nm w' A n c l :=
  ⟨h.len, h.le, h.big, h.nil, h.spot, fun b off e j x hj => (hb.cell (World.block_lt_of_cell? _ _ (h.cell b off e j x hj))).trans (h.cell b off e j x hj)⟩
def nc (l : List Int) : List Value := l.map fun x => Value.int .i64 x
theorem nc_len (l : List Int) : (nc l).length = l.length := by simp [nc]
theorem nc_one (l : List Int) : ∀ u ∈ nc l, u.oneCell' = true := by
  intro u hu; simp only [nc, List.mem_map] at hu; obtain ⟨x, _, rfl⟩ := hu; rfl
theorem Nm.news {w : World} {ad : Addr} {n c : Nat} {l : List Int} (h : Nm w (some ad) n c l) : ∀ j u, (nc l)[j]? = some u → w.cell? (ad.add j) = some u := by
  obtain ⟨b, off, sp⟩ := ad
  have := h.spot _ rfl; simp at this; subst this
  intro j u hj
  obtain ⟨x, hx, rfl⟩ : ∃ x, l[j]? = some x ∧ Value.int .i64 x = u := by
    simp only [nc, List.getElem?_map] at hj
    cases hl : l[j]? with
    | none => rw [hl] at hj; simp at hj
    | some x => rw [hl] at hj; simp at hj; exact ⟨x, rfl, hj⟩
  rw [Addr.add_lit]; exact h.cell b off rfl j x hx
theorem owns_nm {w : World} {B : Nat} {e : TypeId} {v : Value} {n : Nat} {l : List Int} (h : w.ownsRow B e 1 v n (nc l)) (hn8 : ∀ A c, v = .slice A n c → c * 8 ≤ 140737488355328) : ∃ A c, v = .slice A n c ∧ Nm w A n c l := by
  obtain ⟨hl, h2⟩ := h
  have hn : l.length = n := by rw [nc_len] at hl; omega
  rcases h2 with ⟨rfl, rfl⟩ | ⟨g, cap, cur, rfl, hB, hg, hc, hm, hs, ht⟩
  · exact ⟨none, 0, rfl, hn, Nat.le_refl _, by omega, fun _ => ⟨rfl, rfl⟩, fun _ e => (nomatch e), fun _ _ e => (nomatch e)⟩
  · refine ⟨some ⟨g, 0, none⟩, cap, rfl, hn, hc, hn8 _ _ rfl, fun e => (nomatch e), fun ad e => (by cases e; rfl), ?_⟩
    intro b off e j x hj
    cases e
    have hj2 : (nc l)[j]? = some (.int .i64 x) := by simp [nc, hj]
    rw [← ht] at hj2
    have hlt := (List.getElem?_eq_some_iff.1 hj).1
    rw [List.getElem?_take_of_lt (by omega)] at hj2
    simp only [World.cell?, hg, Nat.zero_add]
    simpa using hj2

theorem info_i64 : (Tryd.prog.info? 3).map (fun i => (i.zero, i.size, i.bytes)) = some (some (.int .i64 0), 1, 8) := by kernel_rfl
theorem info_item : (Tryd.prog.info? 41).map (fun i => (i.zero, i.size, i.bytes)) = some (some (.agg #[.float .f64 0, .int .i64 0, .int .i64 0, .slice none 0 0]), 4, 48) := by kernel_rfl

set_option maxHeartbeats 400000 in
theorem intsClone_any (w : World) (A : Option Addr) (n c : Nat) (l : List Int) (h : Nm w A n c l) :
    Calls Tryd.prog 17 #[.slice A n c] w fun e w' => ∃ v, e = .returned v ∧ w'.ownsRow w.heap.size 3 1 v n (nc l) ∧ (v = .slice none 0 0 ↔ A = none) ∧ Below w.heap.size w w' := by
  cases A with
  | none =>
    obtain ⟨rfl, rfl⟩ := h.nil rfl
    have hl : l = [] := List.eq_nil_of_length_eq_zero h.len
    subst hl
    have hq := fun (w : World) => Lib.run_eql_slice_nil (P := Tryd.prog) w 28 3 none 0 0 0 0 Tryd.underlying28
    go_enter Tryd.func17, Tryd.ntmps17
    go_wp2
    go_ret
    exact ⟨_, rfl, owns_nil _ _ _ _, by simp, Below.refl _ _⟩
  | some ad =>
    have hq := fun (w : World) => Lib.run_eql_slice_nil (P := Tryd.prog) w 28 3 (some ad) n c 0 0 Tryd.underlying28
    obtain ⟨i, hi0, hz, hsz, hby⟩ := info_parts info_i64
    have hh := Lib.hid h
    have hbig := h.big; have hle := h.le
    have hz' := Lib.hid hz; have hsz' := Lib.hid hsz; have hby' := Lib.hid hby; have hi' := Lib.hid hi0
    clear h hz hsz hby hi0
    go_enter Tryd.func17, Tryd.ntmps17
    go_wp2_with (at_builtin; refine wpList_append_own _ rfl _ _ 28 rfl w.heap.size 3 i (.int .i64 0) 1 8 Tryd.underlying28 hi'.out hz'.out hsz'.out hby'.out rfl (by omega) (.slice (some ⟨w.heap.size, 0, none⟩) 0 0) 0 [] rfl (owns_empty w _ _ _ (Nat.le_refl _)) ad n c (nc l) rfl (by rw [nc_len, hh.out.len]; omega) (hh.out.below ((Below.refl _ w).alloc (Nat.le_refl _) _)).news (nc_one l) (by unfold maxLen; omega) (by omega) (by simp) ?_; intro v' w1 ho hg hnil)
    go_ret
    refine ⟨_, rfl, by simpa using ho, by simp [hnil], ?_⟩
    exact ((Below.refl _ w).alloc (Nat.le_refl _) _).grown hg (by simp) (by simp [Value.ownBlock])

/-- an item's cells -/
def ic (l : List It) : List Value := l.flatMap fun x => [.float .f64 x.mom, .int .i64 x.kind, .int .i64 x.num, .slice x.A x.len x.cap]
theorem ic_len (l : List It) : (ic l).length = l.length * 4 := by
  induction l with
  | nil => rfl
  | cons x r ih => simp [ic] at ih ⊢; omega
theorem ic_one (l : List It) : ∀ u ∈ ic l, u.oneCell' = true := by
  intro u hu; simp only [ic, List.mem_flatMap] at hu; obtain ⟨x, _, hx⟩ := hu; simp at hx; rcases hx with rfl | rfl | rfl | rfl <;> rfl
theorem ic_get : ∀ (l : List It) (j : Nat) (x : It), l[j]? = some x → (ic l)[j * 4]? = some (.float .f64 x.mom) ∧ (ic l)[j * 4 + 1]? = some (.int .i64 x.kind) ∧ (ic l)[j * 4 + 2]? = some (.int .i64 x.num) ∧ (ic l)[j * 4 + 3]? = some (.slice x.A x.len x.cap)
  | [], j, x, h => by simp at h
  | y :: r, 0, x, h => by simp at h; subst h; simp [ic]
  | y :: r, j + 1, x, h => by
    have := ic_get r j x (by simpa using h)
    have e : ic (y :: r) = [.float .f64 y.mom, .int .i64 y.kind, .int .i64 y.num, .slice y.A y.len y.cap] ++ ic r := rfl
    rw [e]
    refine ⟨?_, ?_, ?_, ?_⟩ <;> (rw [List.getElem?_append_right (by simp; omega)]; simp only [List.length_cons, List.length_nil])
    · rw [show (j + 1) * 4 - (0 + 1 + 1 + 1 + 1) = j * 4 by omega]; exact this.1
    · rw [show (j + 1) * 4 + 1 - (0 + 1 + 1 + 1 + 1) = j * 4 + 1 by omega]; exact this.2.1
    · rw [show (j + 1) * 4 + 2 - (0 + 1 + 1 + 1 + 1) = j * 4 + 2 by omega]; exact this.2.2.1
    · rw [show (j + 1) * 4 + 3 - (0 + 1 + 1 + 1 + 1) = j * 4 + 3 by omega]; exact this.2.2.2
theorem ic_inv : ∀ (l : List It) (i : Nat) (u : Value), (ic l)[i]? = some u → ∃ x, l[i / 4]? = some x ∧ (ic [x])[i % 4]? = some u
  | [], i, u, h => by simp [ic] at h
  | y :: r, i, u, h => by
    have e : ic (y :: r) = ic [y] ++ ic r := by simp [ic]
    rw [e] at h
    by_cases hi : i < 4
    · rw [List.getElem?_append_left (by rw [ic_len]; simpa using hi)] at h
      exact ⟨y, by rw [Nat.div_eq_of_lt hi]; rfl, by rw [Nat.mod_eq_of_lt hi]; exact h⟩
    · rw [List.getElem?_append_right (by rw [ic_len]; simp; omega), ic_len] at h
      obtain ⟨x, h1, h2⟩ := ic_inv r (i - 1 * 4) u h
      refine ⟨x, ?_, ?_⟩
      · rw [show i / 4 = (i - 1 * 4) / 4 + 1 by omega]; simpa using h1
      · rw [show i % 4 = (i - 1 * 4) % 4 by omega]; exact h2
theorem Its.news {w : World} {ad : Addr} {n c : Nat} {l : List It} (h : Its w (some ad) n c l) : ∀ j u, (ic l)[j]? = some u → w.cell? (ad.add j) = some u := by
  obtain ⟨b, off, sp⟩ := ad
  have := h.spot _ rfl; simp at this; subst this
  intro j u hj
  obtain ⟨x, hx, hu⟩ := ic_inv l j u hj
  obtain ⟨c0, c1, c2, c3, _⟩ := h.cell b off rfl _ x hx
  rw [Addr.add_lit]
  have hm : j % 4 = 0 ∨ j % 4 = 1 ∨ j % 4 = 2 ∨ j % 4 = 3 := by omega
  rcases hm with hm | hm | hm | hm <;> rw [hm] at hu <;> simp [ic] at hu <;> subst hu
  · rw [show off + j = off + j / 4 * 4 by omega]; exact c0
  · rw [show off + j = off + j / 4 * 4 + 1 by omega]; exact c1
  · rw [show off + j = off + j / 4 * 4 + 2 by omega]; exact c2
  · rw [show off + j = off + j / 4 * 4 + 3 by omega]; exact c3

set_option maxHeartbeats 400000 in
theorem itemsClone_any (w : World) (A : Option Addr) (n c : Nat) (l : List It) (h : Its w A n c l) :
    Calls Tryd.prog 16 #[.slice A n c] w fun e w' => ∃ v, e = .returned v ∧ w'.ownsRow w.heap.size 41 4 v n (ic l) ∧ (v = .slice none 0 0 ↔ A = none) ∧ Below w.heap.size w w' := by
  cases A with
  | none =>
    obtain ⟨rfl, rfl⟩ := h.nil rfl
    have hl : l = [] := List.eq_nil_of_length_eq_zero h.len
    subst hl
    have hq := fun (w : World) => Lib.run_eql_slice_nil (P := Tryd.prog) w 27 41 none 0 0 0 0 Tryd.underlying27
    go_enter Tryd.func16, Tryd.ntmps16
    go_wp2
    go_ret
    exact ⟨_, rfl, owns_nil _ _ _ _, by simp, Below.refl _ _⟩
  | some ad =>
    have hq := fun (w : World) => Lib.run_eql_slice_nil (P := Tryd.prog) w 27 41 (some ad) n c 0 0 Tryd.underlying27
    obtain ⟨i, hi0, hz, hsz, hby⟩ := info_parts info_item
    have hh := Lib.hid h
    have hbig := h.big; have hle := h.le
    have hz' := Lib.hid hz; have hsz' := Lib.hid hsz; have hby' := Lib.hid hby; have hi' := Lib.hid hi0
    clear h hz hsz hby hi0
    go_enter Tryd.func16, Tryd.ntmps16
    go_wp2_with (at_builtin; refine wpList_append_own _ rfl _ _ 27 rfl w.heap.size 41 i (.agg #[.float .f64 0, .int .i64 0, .int .i64 0, .slice none 0 0]) 4 48 Tryd.underlying27 hi'.out hz'.out hsz'.out hby'.out rfl (by omega) (.slice (some ⟨w.heap.size, 0, none⟩) 0 0) 0 [] rfl (owns_empty w _ _ _ (Nat.le_refl _)) ad n c (ic l) rfl (by rw [ic_len, hh.out.len]) (hh.out.below ((Below.refl _ w).alloc (Nat.le_refl _) _)).news (ic_one l) (by unfold maxLen; omega) (by omega) (by simp) ?_; intro v' w1 ho hg hnil)
    go_ret
    refine ⟨_, rfl, by simpa using ho, by simp [hnil], ?_⟩
    exact ((Below.refl _ w).alloc (Nat.le_refl _) _).grown hg (by simp) (by simp [Value.ownBlock])
end Go.Proofs.YtnogcpjfgnpbbaaDoor
