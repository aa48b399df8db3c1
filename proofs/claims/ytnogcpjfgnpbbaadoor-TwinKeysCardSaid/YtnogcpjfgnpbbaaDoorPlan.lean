/- A plan's items in memory, and the contract of world.Check. Conditions: none. -/
import Derived.Test.YtnogcpjfgnpbbaaDoorBase
set_option linter.unusedSimpArgs false
set_option linter.unusedVariables false
namespace Go.Proofs.YtnogcpjfgnpbbaaDoor
open Go.RowKit

/-- an item: its moment's bits, kind, number, the slice of its bytes, and these -/
structure It where
  mom : Nat
  kind : Int
  num : Int
  A : Option Addr
  len : Nat
  cap : Nat
  data : List UInt8

structure Its (w : World) (A : Option Addr) (n c : Nat) (l : List It) : Prop where
  len : l.length = n
  le : n ≤ c
  big : c * 48 ≤ 140737488355328
  nil : A = none → n = 0 ∧ c = 0
  spot : ∀ ad, A = some ad → ad.spot = none
  cell : ∀ b off, A = some ⟨b, off, none⟩ → ∀ j x, l[j]? = some x → w.cell? ⟨b, off + j * 4, none⟩ = some (.float .f64 x.mom) ∧ w.cell? ⟨b, off + j * 4 + 1, none⟩ = some (.int .i64 x.kind) ∧
    w.cell? ⟨b, off + j * 4 + 2, none⟩ = some (.int .i64 x.num) ∧ w.cell? ⟨b, off + j * 4 + 3, none⟩ = some (.slice x.A x.len x.cap) ∧ Rd w x.A x.len x.cap x.data

theorem Its.below {w w' : World} {A : Option Addr} {n c : Nat} {l : List It} (h : Its w A n c l) (hb : Below w.heap.size w w') : Its w' A n c l :=
  ⟨h.len, h.le, h.big, h.nil, h.spot, fun b off e j x hj => by
    obtain ⟨h0, h1, h2, h3, h4⟩ := h.cell b off e j x hj
    have hk := World.block_lt_of_cell? _ _ h0
    exact ⟨(hb.cell hk).trans h0, (hb.cell (World.block_lt_of_cell? _ _ h1)).trans h1, (hb.cell (World.block_lt_of_cell? _ _ h2)).trans h2, (hb.cell (World.block_lt_of_cell? _ _ h3)).trans h3, h4.below hb⟩⟩

theorem Its.addr {w : World} {A : Option Addr} {n c : Nat} {l : List It} (h : Its w A n c l) (hn : 0 < n) : ∃ b off, A = some ⟨b, off, none⟩ := by
  cases A with
  | none => have := (h.nil rfl).1; omega
  | some ad => obtain ⟨b, off, sp⟩ := ad; have := h.spot _ rfl; simp at this; subst this; exact ⟨b, off, rfl⟩

def badItem (x : It) : Nat := if x.kind < 0 ∨ 2 < x.kind then 9 else if (x.kind ≠ 0 ∧ 0 < x.len) ∨ (x.kind ≠ 1 ∧ x.num ≠ 0) then 2 else if x.num < 0 then 3 else 0
def badItems : List It → Nat
  | [] => 0
  | x :: r => if badItem x = 0 then badItems r else badItem x
/-- what is wrong with a plan -/
def wCheck (l : List It) : Nat := if 4096 < l.length then 10 else badItems l

theorem badItems_drop (l : List It) (k : Nat) (x : It) (h : l[k]? = some x) : badItems (l.drop k) = if badItem x = 0 then badItems (l.drop (k + 1)) else badItem x := by
  obtain ⟨hk, hx⟩ := List.getElem?_eq_some_iff.1 h
  rw [List.drop_eq_getElem_cons hk, hx]; rfl

def planV (f m t : Int) (A : Option Addr) (n c : Nat) (wv gv sv : Value) : Array Value := #[.int .u32 f, .int .u8 m, .int .u8 t, .slice A n c, wv, gv, sv]

set_option maxHeartbeats 2000000 in
theorem worldCheck_any (w : World) (f m t : Int) (A : Option Addr) (n c : Nat) (wA gA sA : Option Addr) (wn wc gn gc sn sc : Nat) (l : List It) (h : Its w A n c l) :
    Calls Tryd.prog 10 #[.agg #[.int .u32 f, .int .u8 m, .int .u8 t, .slice A n c, .slice wA wn wc, .slice gA gn gc, .slice sA sn sc]] w fun e w' => e = .returned (.int .i64 (wCheck l)) ∧ Below w.heap.size w w' := by
  have hlen := h.len; have hle := h.le; have hbig := h.big
  by_cases hbg : 4096 < n
  · have hw : wCheck l = 10 := by rw [wCheck, if_pos (by omega)]
    rw [hw]
    clear h hlen hw
    go_enter Tryd.func10, Tryd.ntmps10
    go_wp2
    go_ret
    exact ⟨rfl, (Below.refl _ _).alloc (Nat.le_refl _) _⟩
  · have hw : wCheck l = badItems l := by rw [wCheck, if_neg (by omega)]
    rw [hw]
    have hlen' := Lib.hid hlen
    have hh := Lib.hid h
    clear hw h hlen
    go_enter Tryd.func10, Tryd.ntmps10
    go_wp2
    go_loopw [12] (fun i wr => ∃ k : Nat, i = .int .i64 k ∧ k ≤ n ∧ Hid (badItems l = badItems (l.drop k)) ∧ Below w.heap.size w wr) (fun i _ => n - (intOf i).toNat)
    case atStart => exact ⟨0, rfl, by omega, rfl, (Below.refl _ _).alloc (Nat.le_refl _) _⟩
    case round =>
      obtain ⟨k, rfl, hk, hR, hB⟩ := hrel
      by_cases hkn : (k : Int) < n
      · obtain ⟨b, off, rfl⟩ := hh.out.addr (by omega)
        obtain ⟨x, hx⟩ : ∃ x, l[k]? = some x := ⟨l[k]'(by have := hlen'.out; omega), List.getElem?_eq_getElem _⟩
        obtain ⟨c0, c1, c2, c3, hd⟩ := (hh.out.below hB).cell b off rfl k x hx
        have hbs : b < wr.heap.size := World.block_lt_of_cell? _ _ c0
        have hD := Lib.hid (hR.out.trans (badItems_drop l k x hx))
        have hbi : Hid (badItem x = if x.kind < 0 ∨ 2 < x.kind then 9 else if (x.kind ≠ 0 ∧ 0 < x.len) ∨ (x.kind ≠ 1 ∧ x.num ≠ 0) then 2 else if x.num < 0 then 3 else 0) := rfl
        generalize badItem x = BI at hD hbi
        obtain ⟨mom, kind, num, A', len', cap', data⟩ := x
        simp only at c0 c1 c2 c3 hbi
        clear hx hd hR
        by_cases k0 : kind < 0
        · have hE : Hid (badItems l = 9) := Lib.hid (by have h1 := hD.out; have h2 := hbi.out; rw [if_pos (Or.inl k0)] at h2; rw [h1, h2]; rfl)
          clear hD hbi
          go_wp2
          go_ret
          exact ⟨ret_i (by rw [hE.out]; rfl), hB.alloc hB.size _⟩
        · by_cases k2 : 2 < kind
          · have hE : Hid (badItems l = 9) := Lib.hid (by have h1 := hD.out; have h2 := hbi.out; rw [if_pos (Or.inr k2)] at h2; rw [h1, h2]; rfl)
            clear hD hbi
            go_wp2
            go_ret
            exact ⟨ret_i (by rw [hE.out]; rfl), hB.alloc hB.size _⟩
          · have hq : ¬ (kind < 0 ∨ 2 < kind) := by omega
            have hbi2 := Lib.hid (hbi.out.trans (if_neg hq))
            clear hbi hq
            have hbi := hbi2
            clear hbi2
            obtain rfl | rfl | rfl : kind = 0 ∨ kind = 1 ∨ kind = 2 := by omega
            · by_cases n0 : num = 0
              · subst n0
                clear k0 k2
                have hE : Hid (badItems l = badItems (l.drop (k + 1))) := Lib.hid (by have h1 := hD.out; have h2 := hbi.out; rw [if_neg (by omega), if_neg (by omega)] at h2; rw [h1, h2]; rfl)
                clear hD hbi
                go_wp2
                go_roundw
                case rel => exact ⟨k + 1, by go_num, by omega, hE, hB.alloc hB.size _⟩
                case measure => simp [intOf]; omega
              · have n1 : (num != 0) = true := by simp [n0]
                have hF : (0 : Int) ≠ 1 ∧ num ≠ 0 := ⟨by omega, n0⟩
                clear n0
                have hE : Hid (badItems l = 2) := Lib.hid (by have h1 := hD.out; have h2 := hbi.out; rw [if_pos (Or.inr hF)] at h2; rw [h1, h2]; rfl)
                clear hD hbi hF k0 k2
                go_wp2
                go_ret
                exact ⟨ret_i (by rw [hE.out]; rfl), hB.alloc hB.size _⟩
            · by_cases l0 : (0 : Int) < len'
              · have hE : Hid (badItems l = 2) := Lib.hid (by have h1 := hD.out; have h2 := hbi.out; rw [if_pos (Or.inl ⟨by omega, by omega⟩)] at h2; rw [h1, h2]; rfl)
                clear hD hbi
                go_wp2
                go_ret
                exact ⟨ret_i (by rw [hE.out]; rfl), hB.alloc hB.size _⟩
              · by_cases n0 : num < 0
                · have hE : Hid (badItems l = 3) := Lib.hid (by have h1 := hD.out; have h2 := hbi.out; rw [if_neg (by omega), if_pos n0] at h2; rw [h1, h2]; rfl)
                  clear hD hbi
                  go_wp2
                  go_ret
                  exact ⟨ret_i (by rw [hE.out]; rfl), hB.alloc hB.size _⟩
                · have hE : Hid (badItems l = badItems (l.drop (k + 1))) := Lib.hid (by have h1 := hD.out; have h2 := hbi.out; rw [if_neg (by omega), if_neg n0] at h2; rw [h1, h2]; rfl)
                  clear hD hbi
                  go_wp2
                  go_roundw
                  case rel => exact ⟨k + 1, by go_num, by omega, hE, hB.alloc hB.size _⟩
                  case measure => simp [intOf]; omega
            · by_cases l0 : (0 : Int) < len'
              · have hE : Hid (badItems l = 2) := Lib.hid (by have h1 := hD.out; have h2 := hbi.out; rw [if_pos (Or.inl ⟨by omega, by omega⟩)] at h2; rw [h1, h2]; rfl)
                clear hD hbi
                go_wp2
                go_ret
                exact ⟨ret_i (by rw [hE.out]; rfl), hB.alloc hB.size _⟩
              · by_cases n0 : num = 0
                · subst n0
                  have hE : Hid (badItems l = badItems (l.drop (k + 1))) := Lib.hid (by have h1 := hD.out; have h2 := hbi.out; rw [if_neg (by omega), if_neg (by omega)] at h2; rw [h1, h2]; rfl)
                  clear hD hbi
                  go_wp2
                  go_roundw
                  case rel => exact ⟨k + 1, by go_num, by omega, hE, hB.alloc hB.size _⟩
                  case measure => simp [intOf]; omega
                · have n1 : (num != 0) = true := by simp [n0]
                  have hF : (2 : Int) ≠ 1 ∧ num ≠ 0 := ⟨by omega, n0⟩
                  clear n0
                  have hE : Hid (badItems l = 2) := Lib.hid (by have h1 := hD.out; have h2 := hbi.out; rw [if_pos (Or.inr hF)] at h2; rw [h1, h2]; rfl)
                  clear hD hbi hF
                  go_wp2
                  go_ret
                  exact ⟨ret_i (by rw [hE.out]; rfl), hB.alloc hB.size _⟩
      · have hE : Hid (badItems l = 0) := Lib.hid (by have h1 := hR.out; have := hlen'.out; rw [h1, List.drop_of_length_le (by omega)]; rfl)
        go_wp2
        go_ret
        exact ⟨ret_i (by rw [hE.out]; rfl), hB⟩
end Go.Proofs.YtnogcpjfgnpbbaaDoor
