/- Memory words of this claim: a list of bytes that a slice leads to. Conditions: none; no program is named here. -/
import Derived.Test.YtnogcpjfgnpbbaaDoorProg
import Derived.WalkKit
import Derived.WalkSpells
import Derived.WalkLawsBesides
import Derived.Lib.Hide
import Derived.Laws.EntriesVeiled
import Derived.Laws.AppendOwnNone
set_option linter.unusedSimpArgs false
set_option linter.unusedVariables false
namespace Go.Proofs.YtnogcpjfgnpbbaaDoor
open Go.RowKit

theorem run_store_float (P : Program) (w : World) (a : Addr) (m : Mode) (k : FloatKind) (n : Nat) : (store a (.float k n) m).run P w = stored P w a (.float k n) m := run_store P w a _ m rfl
attribute [go_sem] run_store_float

/-- The slice (A, n, c) leads to the bytes l. -/
structure Rd (w : World) (A : Option Addr) (n c : Nat) (l : List UInt8) : Prop where
  len : l.length = n
  le : n ≤ c
  big : c ≤ 9223372036854775807
  nil : A = none → n = 0 ∧ c = 0
  spot : ∀ ad, A = some ad → ad.spot = none
  cell : ∀ b off, A = some ⟨b, off, none⟩ → ∀ j x, l[j]? = some x → w.cell? ⟨b, off + j, none⟩ = some (.int .u8 x.toNat)

theorem Rd.below {w w' : World} {A : Option Addr} {n c : Nat} {l : List UInt8} (h : Rd w A n c l) (hb : Below w.heap.size w w') : Rd w' A n c l :=
  ⟨h.len, h.le, h.big, h.nil, h.spot, fun b off e j x hj => (hb.cell (World.block_lt_of_cell? _ _ (h.cell b off e j x hj))).trans (h.cell b off e j x hj)⟩

theorem Rd.addr {w : World} {A : Option Addr} {n c : Nat} {l : List UInt8} (h : Rd w A n c l) (hn : l ≠ []) : ∃ b off, A = some ⟨b, off, none⟩ := by
  cases A with
  | none => have := (h.nil rfl).1; have h2 := h.len; exact absurd (List.eq_nil_of_length_eq_zero (by omega)) hn
  | some ad => obtain ⟨b, off, sp⟩ := ad; have := h.spot _ rfl; simp at this; subst this; exact ⟨b, off, rfl⟩

theorem Rd.get {w : World} {b off n c : Nat} {l : List UInt8} (h : Rd w (some ⟨b, off, none⟩) n c l) (j : Nat) (hj : j < n) : w.cell? ⟨b, off + j, none⟩ = some (.int .u8 (l.getD j 0).toNat) := by
  have hl := h.len
  refine h.cell b off rfl j _ ?_
  rw [List.getD_eq_getElem?_getD, List.getElem?_eq_getElem (by omega)]; rfl

theorem Rd.get0 {w : World} {b off n c : Nat} {x : UInt8} {l : List UInt8} (h : Rd w (some ⟨b, off, none⟩) n c (x :: l)) : w.cell? ⟨b, off, none⟩ = some (.int .u8 x.toNat) := h.cell b off rfl 0 x rfl

/-- A cut from k on, as the model spells its address. -/
theorem Rd.drop {w : World} {b off n c : Nat} {l : List UInt8} (h : Rd w (some ⟨b, off, none⟩) n c l) (k : Nat) (hk : k ≤ n) : Rd w (if c = k then some ⟨b, off, none⟩ else some ⟨b, off + k, none⟩) (n - k) (c - k) (l.drop k) where
  len := by simp [h.len]
  le := by have := h.le; omega
  big := by have := h.big; omega
  nil := by split <;> simp
  spot := by split <;> (intro ad e; cases e; rfl)
  cell := by
    intro b' off' e j x hj
    have hl := h.len; have hle := h.le
    rw [List.getElem?_drop] at hj
    have := (List.getElem?_eq_some_iff.1 hj).1
    rw [if_neg (by omega)] at e
    cases e
    rw [Nat.add_assoc]; exact h.cell b off rfl (k + j) x hj

theorem Rd.take {w : World} {A : Option Addr} {n c : Nat} {l : List UInt8} (h : Rd w A n c l) (k : Nat) (hk : k ≤ n) : Rd w A k c (l.take k) where
  len := by rw [List.length_take, h.len]; omega
  le := by have := h.le; omega
  big := h.big
  nil := fun e => by have := h.nil e; omega
  spot := h.spot
  cell := fun b off e j x hj => by
    rw [List.getElem?_take] at hj
    split at hj
    · exact h.cell b off e j x hj
    · simp at hj

theorem Rd.str {P : Program} {w : World} {b off n c : Nat} {l : List UInt8} (h : Rd w (some ⟨b, off, none⟩) n c l) (src dst e : TypeId) (hs : P.underlying src = some (.slice e)) (he : P.underlying e = some (.int .u8)) (hd : P.underlying dst = some .string) :
    (convert src dst (.slice (some ⟨b, off, none⟩) n c)).run P w = .ok (.string ⟨l.toArray⟩) w := by
  have hx := run_convert_bytes_arg (P := P) w src e hs he b off n c (l.map fun x => (x.toNat : Int)) (by simp [h.len]) (fun i hi => by
    rw [h.get i hi]
    have := h.len
    simp [List.getD_eq_getElem?_getD, List.getElem?_eq_getElem (show i < l.length by omega)]) dst hd
  rw [hx]
  have e : (fun n : Int => UInt8.ofNat n.toNat) ∘ (fun x : UInt8 => (x.toNat : Int)) = id := by funext x; simp
  simp [strOfNums, e]

theorem u8_lt (x : UInt8) : (x.toNat : Int) < 256 := by have := x.toNat_lt; omega
theorem u8_ge (x : UInt8) : (0 : Int) ≤ (x.toNat : Int) := by omega
theorem ret_i {k : IntKind} {a b : Int} (h : a = b) : Ending.returned (.int k a) = .returned (.int k b) := by rw [h]
theorem ret_b {a b : Bool} (h : a = b) : Ending.returned (.bool a) = .returned (.bool b) := by rw [h]
theorem bcell {w w1 : World} (hb : Below w.heap.size w w1) : (∀ b o, b < w.heap.size → w1.cell? ⟨b, o, none⟩ = w.cell? ⟨b, o, none⟩) ∧ (∀ b o, b < w.heap.size → w1.frozen? ⟨b, o, none⟩ = w.frozen? ⟨b, o, none⟩) :=
  ⟨fun b o h => hb.cell (p := ⟨b, o, none⟩) h, fun b o h => hb.frozen (p := ⟨b, o, none⟩) h⟩

/-! ### rows of the call's own -/
def bc (l : List UInt8) : List Value := l.map fun x => Value.int .u8 x.toNat
theorem bc_len (l : List UInt8) : (bc l).length = l.length := by simp [bc]
theorem bc_append (l m : List UInt8) : bc (l ++ m) = bc l ++ bc m := by simp [bc]
theorem bc_get {l : List UInt8} {j : Nat} {x : UInt8} (h : l[j]? = some x) : (bc l)[j]? = some (.int .u8 x.toNat) := by simp [bc, h]
theorem bc_one (l : List UInt8) : ∀ u ∈ bc l, u.oneCell' = true := by
  intro u hu; simp only [bc, List.mem_map] at hu; obtain ⟨x, _, rfl⟩ := hu; rfl

theorem owns_nil (w : World) (B : Nat) (e : TypeId) (s : Nat) : w.ownsRow B e s (.slice none 0 0) 0 [] := ⟨by simp, Or.inl ⟨rfl, rfl⟩⟩
theorem owns_empty (w : World) (B : Nat) (e : TypeId) (s : Nat) (h : B ≤ w.heap.size) : (w.alloc (.cells #[] e)).ownsRow B e s (.slice (some ⟨w.heap.size, 0, none⟩) 0 0) 0 [] :=
  ⟨by simp, Or.inr ⟨w.heap.size, 0, #[], rfl, h, by show (w.heap.push _)[w.heap.size]? = _; simp, Nat.le_refl _, by simp, by simp, by simp⟩⟩
/-- a row of the call's own as bytes that are read -/
theorem owns_rd {w : World} {B : Nat} {e : TypeId} {v : Value} {n : Nat} {l : List UInt8} (h : w.ownsRow B e 1 v n (bc l)) : ∃ A c, v = .slice A n c ∧ Rd w A n c l := by
  obtain ⟨hl, h2⟩ := h
  have hn : l.length = n := by rw [bc_len] at hl; omega
  rcases h2 with ⟨rfl, rfl⟩ | ⟨g, cap, cur, rfl, hB, hg, hc, hm, hs, ht⟩
  · exact ⟨none, 0, rfl, hn, Nat.le_refl _, by omega, fun _ => ⟨rfl, rfl⟩, fun _ e => (nomatch e), fun _ _ e => (nomatch e)⟩
  · refine ⟨some ⟨g, 0, none⟩, cap, rfl, hn, hc, by simpa [maxLen] using hm, fun e => (nomatch e), fun ad e => (by cases e; rfl), ?_⟩
    intro b off e j x hj
    cases e
    have hj2 := bc_get hj
    rw [← ht] at hj2
    have hlt := (List.getElem?_eq_some_iff.1 hj).1
    rw [List.getElem?_take_of_lt (by omega)] at hj2
    simp only [World.cell?, hg, Nat.zero_add]
    simpa using hj2
theorem Rd.news {w : World} {ad : Addr} {n c : Nat} {l : List UInt8} (h : Rd w (some ad) n c l) : ∀ j u, (bc l)[j]? = some u → w.cell? (ad.add j) = some u := by
  obtain ⟨b, off, sp⟩ := ad
  have := h.spot _ rfl; simp at this; subst this
  intro j u hj
  obtain ⟨x, hx, rfl⟩ : ∃ x, l[j]? = some x ∧ Value.int .u8 x.toNat = u := by
    simp only [bc, List.getElem?_map] at hj
    cases hl : l[j]? with
    | none => rw [hl] at hj; simp at hj
    | some x => rw [hl] at hj; simp at hj; exact ⟨x, rfl, hj⟩
  rw [Addr.add_lit]; exact h.cell b off rfl j x hx

section
variable {P : Program} {w : World} {ops : Array Oper} {rest : List Oper} {o : Oper} {a : Act} {Q : Exit → Act → World → Prop}
/-- 'append(s, x...)', s of the call's own, x bytes that are read -/
theorem wpList_append_rd (hgd : o.guard = none) (s x : Operand) (t : TypeId) (ho : o.op = .call { callee := .builtin .append, args := #[s, x], argTypes := #[t, t] }) (base : Nat) (e : TypeId) (ht : P.underlying t = some (.slice e))
    (hi : (P.info? e).map (fun i => (i.zero, i.size, i.bytes)) = some (some (.int .u8 0), 1, 1)) (v : Value) (n : Nat) (xs : List Value) (hs : a.eval s = v) (hown : w.ownsRow base e 1 v n xs)
    (A : Option Addr) (m c : Nat) (l : List UInt8) (hx : a.eval x = .slice A m c) (hr : Rd w A m c l) (hb : n + m ≤ 140737488355328) (hbase : base ≤ w.heap.size)
    (h : ∀ v' w', w'.ownsRow base e 1 v' (n + m) (xs ++ bc l) → w.grownBy w' v.ownBlock → (v' = .slice none 0 0 ↔ v = .slice none 0 0 ∧ m = 0) → wpList P ops Q rest (a.put o.dst v') w') : wpList P ops Q (o :: rest) a w := by
  obtain ⟨i, hi0, hz, hsz, hby⟩ := info_parts hi
  cases A with
  | some ad =>
    exact wpList_append_own w hgd s x t ho base e i (.int .u8 0) 1 1 ht hi0 hz hsz hby rfl (by omega) v n xs hs hown ad m c (bc l) hx (by rw [bc_len, hr.len]; omega) hr.news (bc_one l) (by unfold maxLen; omega) (by omega) hbase h
  | none =>
    obtain ⟨rfl, rfl⟩ := hr.nil rfl
    have hl : l = [] := List.eq_nil_of_length_eq_zero hr.len
    subst hl
    exact wpList_append_own_none hgd s x t ho base e i 1 ht hi0 v n xs hs hown hx (h v w (by simpa [bc] using hown) (World.grownBy.refl _ _) (by simp))
end
end Go.Proofs.YtnogcpjfgnpbbaaDoor
