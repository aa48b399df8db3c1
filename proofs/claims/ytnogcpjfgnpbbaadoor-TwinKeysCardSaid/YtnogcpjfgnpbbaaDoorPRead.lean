/- What whispererref10.Read answers, in plain Lean; keys in memory. Conditions: none. -/
import Derived.Test.YtnogcpjfgnpbbaaDoorRefD
import Derived.Test.YtnogcpjfgnpbbaaDoorTwinA
import Derived.Lib.SmallJoins
import Derived.OneCell
set_option linter.unusedSimpArgs false
set_option linter.unusedVariables false
namespace Go.Proofs.YtnogcpjfgnpbbaaDoor
open Go.RowKit

def esc27 (x : UInt8) : Bool := decide (x.toNat = 27)
/-- the key at the front: kind and character; how many bytes; the error -/
def kStep (x : UInt8) (r : List UInt8) (p : Bool) : (Int × Int) × Nat × Nat :=
  if x.toNat = 27 then
    ((if (p = true ∧ (eNext (x :: r)).1 ≠ 14) ∨ (p = false ∧ (eNext (x :: r)).1 = 14) then 15 else (eNext (x :: r)).1, 0), (eNext (x :: r)).2)
  else
    ((if p = true ∧ (kOf (if (uNext (x :: r)).2.2 = 8 then 65533 else (uNext (x :: r)).1)).1 ≠ 0 then (15, 0) else kOf (if (uNext (x :: r)).2.2 = 8 then 65533 else (uNext (x :: r)).1)), (uNext (x :: r)).2.1, if (uNext (x :: r)).2.2 = 8 then 0 else (uNext (x :: r)).2.2)

def pNext (k : Int) (p : Bool) : Bool := if k = 13 ∨ k = 14 then decide (k = 13) else p

def rdM : Nat → List UInt8 → Bool → List (Int × Int) × List UInt8 × Bool
  | _, [], p => ([], [], p)
  | 0, _ :: _, p => ([], [], p)
  | d + 1, x :: r, p =>
    if (kStep x r p).2.2 ≠ 0 then ([], x :: r, p)
    else ((kStep x r p).1 :: (rdM d ((x :: r).drop (kStep x r p).2.1) (pNext (kStep x r p).1.1 p)).1, (rdM d ((x :: r).drop (kStep x r p).2.1) (pNext (kStep x r p).1.1 p)).2)
/-- the keys of bytes, what is held, whether a paste is begun -/
def readM (l : List UInt8) : List (Int × Int) × List UInt8 × Bool := rdM l.length l false

def kc (l : List (Int × Int)) : List Value := l.flatMap fun k => [.int .i64 k.1, .int .i64 k.2]
theorem kc_len (l : List (Int × Int)) : (kc l).length = l.length * 2 := by
  induction l with
  | nil => rfl
  | cons x r ih => simp [kc] at ih ⊢; omega
theorem kc_append (l m : List (Int × Int)) : kc (l ++ m) = kc l ++ kc m := by simp [kc]
theorem info_key : (Tryd.prog.info? 43).map (fun i => (i.zero, i.size, i.bytes)) = some (some (.agg #[.int .i64 0, .int .i64 0]), 2, 16) := by kernel_rfl

/-- the memory of Read: its answer's block and its own -/
structure RdMem (w : World) (A : Option Addr) (m c : Nat) (p : Bool) (wr : World) : Prop where
  below : Below w.heap.size w wr
  size : w.heap.size + 2 ≤ wr.heap.size
  b0 : wr.heap[w.heap.size]? = some (.cells #[.slice none 0 0, .slice none 0 0, .bool false] 37 (0, 0))
  b1 : wr.heap[w.heap.size + 1]? = some (.cells #[.slice A m c, .slice none 0 0, .bool p] 37 (0, 0))
section
variable {w : World} {A : Option Addr} {m c : Nat} {p : Bool} {W : World}
theorem RdMem.kept (h : RdMem w A m c p W) {W' : World} (hb : Below (w.heap.size + 2) W W') : RdMem w A m c p W' :=
  ⟨h.below.trans (hb.mono (by omega)), Nat.le_trans h.size hb.size, (hb.block _ (by omega)).trans h.b0, (hb.block _ (by omega)).trans h.b1⟩
theorem RdMem.alloc (h : RdMem w A m c p W) (o : Obj) : RdMem w A m c p (W.alloc o) := h.kept ((Below.refl _ _).alloc h.size o)
theorem RdMem.setHigh (h : RdMem w A m c p W) {a : Addr} (ha : w.heap.size + 2 ≤ a.block) (u : Value) : RdMem w A m c p (W.setCell a u) := h.kept ((Below.refl _ _).setCell ha u)
theorem RdMem.grown (h : RdMem w A m c p W) {W' : World} {row : Option Nat} (hg : W.grownBy W' row) (hr : ∀ k, row = some k → w.heap.size + 2 ≤ k) : RdMem w A m c p W' := h.kept ((Below.refl _ _).grown hg h.size hr)
theorem RdMem.setP (h : RdMem w A m c p W) (q : Bool) : RdMem w A m c q (W.setCell ⟨w.heap.size + 1, 2, none⟩ (.bool q)) where
  below := h.below.setCell (by simp) _
  size := by simpa using h.size
  b0 := by rw [Below.heap_setCell _ _ _ _ (by simp)]; exact h.b0
  b1 := heap_setCell_same W _ 2 _ _ _ h.b1
theorem RdMem.setK (h : RdMem w A m c p W) (A' : Option Addr) (m' c' : Nat) : RdMem w A' m' c' p (W.setCell ⟨w.heap.size + 1, 0, none⟩ (.slice A' m' c')) where
  below := h.below.setCell (by simp) _
  size := by simpa using h.size
  b0 := by rw [Below.heap_setCell _ _ _ _ (by simp)]; exact h.b0
  b1 := heap_setCell_same W _ 0 _ _ _ h.b1
theorem RdMem.facts (h : RdMem w A m c p W) :
    (W.cell? ⟨w.heap.size, 0, none⟩ = some (.slice none 0 0) ∧ W.cell? ⟨w.heap.size, 1, none⟩ = some (.slice none 0 0) ∧ W.cell? ⟨w.heap.size, 2, none⟩ = some (.bool false)) ∧
    (W.frozen? ⟨w.heap.size, 0, none⟩ = false ∧ W.frozen? ⟨w.heap.size, 1, none⟩ = false ∧ W.frozen? ⟨w.heap.size, 2, none⟩ = false) ∧
    (W.cell? ⟨w.heap.size + 1, 0, none⟩ = some (.slice A m c) ∧ W.cell? ⟨w.heap.size + 1, 1, none⟩ = some (.slice none 0 0) ∧ W.cell? ⟨w.heap.size + 1, 2, none⟩ = some (.bool p)) ∧
    (W.frozen? ⟨w.heap.size + 1, 0, none⟩ = false ∧ W.frozen? ⟨w.heap.size + 1, 1, none⟩ = false ∧ W.frozen? ⟨w.heap.size + 1, 2, none⟩ = false) := by
  have h0 := h.b0; have h1 := h.b1
  refine ⟨⟨?_, ?_, ?_⟩, ⟨?_, ?_, ?_⟩, ⟨?_, ?_, ?_⟩, ⟨?_, ?_, ?_⟩⟩ <;> simp [World.cell?, World.frozen?, h0, h1]
end
/-- the loop of Read: at k, keys ks come, a paste is p -/
structure RdI (w : World) (l : List UInt8) (k d : Nat) (ks : List (Int × Int)) (p : Bool) (A : Option Addr) (m c : Nat) (wr : World) : Prop where
  mem : RdMem w A m c p wr
  row : wr.ownsRow (w.heap.size + 2) 43 2 (.slice A m c) ks.length (kc ks)
  len : ks.length ≤ k
  kle : k ≤ l.length
  fuel : l.length ≤ k + d
  spec : rdM l.length l false = (ks ++ (rdM d (l.drop k) p).1, (rdM d (l.drop k) p).2)

theorem ownsRow_mem {W W' : World} {B : Nat} {e : TypeId} {s : Nat} {v : Value} {n : Nat} {xs : List Value} (h : W.ownsRow B e s v n xs) (hb : Below W.heap.size W W') : W'.ownsRow B e s v n xs :=
  h.kept (row := none) ⟨hb.os, hb.tape, hb.output, hb.size, fun k hk _ => hb.block k hk⟩ (by cases v.ownBlock <;> simp)
theorem ownsRow_fresh {W : World} {B : Nat} {e : TypeId} {s : Nat} {v : Value} {n : Nat} {xs : List Value} (h : W.ownsRow B e s v n xs) : v.ownBlock ≠ some W.heap.size := by
  intro e; have := (h.lt _ e).2; omega
theorem pair_at {W W1 : World} {a b : Value} {T : TypeId} (hb : Below (W.alloc (.cells #[a, b] T)).heap.size (W.alloc (.cells #[a, b] T)) W1) :
    (W1.cell? ⟨W.heap.size, 0, none⟩ = some a ∧ W1.cell? ⟨W.heap.size, 1, none⟩ = some b) ∧ W1.frozen? ⟨W.heap.size, 0, none⟩ = false ∧ W1.frozen? ⟨W.heap.size, 1, none⟩ = false := by
  have h : W1.heap[W.heap.size]? = some (.cells #[a, b] T (0, 0)) := (hb.block _ (by simp)).trans (heap_alloc_new W _)
  refine ⟨⟨?_, ?_⟩, ?_, ?_⟩ <;> simp [World.cell?, World.frozen?, h]
theorem pair_twice {W W1 : World} {a b : Value} {T : TypeId} (hb : Below (W.alloc (.cells #[a, b] T)).heap.size (W.alloc (.cells #[a, b] T)) W1) :
    ∀ q r s t : Value, ((((W1.setCell ⟨W.heap.size, 0, none⟩ q).setCell ⟨W.heap.size, 1, none⟩ r).setCell ⟨W.heap.size, 0, none⟩ s).setCell ⟨W.heap.size, 1, none⟩ t).cell? ⟨W.heap.size, 1, none⟩ = some t := by
  intro q r s t
  have h : W1.heap[W.heap.size]? = some (.cells #[a, b] T (0, 0)) := (hb.block _ (by simp)).trans (heap_alloc_new W _)
  have h4 := heap_setCell_same _ _ 1 _ _ t (heap_setCell_same _ _ 0 _ _ s (heap_setCell_same _ _ 1 _ _ r (heap_setCell_same _ _ 0 _ _ q h)))
  simp [World.cell?, h4]
theorem pair_news (W : World) (a b : Value) (T : TypeId) (g : Nat) (hg : g = W.heap.size) : ∀ j u, [a, b][j]? = some u → (W.alloc (.cells #[a, b] T)).cell? ((⟨g, 0, none⟩ : Addr).add j) = some u := by
  subst hg
  intro j u hj
  rw [Addr.add_lit, cell_of_row _ _ _ _ _ _ (heap_alloc_new W _)]
  simpa using hj
theorem owns_empty' (w : World) (B g : Nat) (e : TypeId) (h : g = w.heap.size) (hB : B ≤ w.heap.size) : (w.alloc (.cells #[] e)).ownsRow B e 1 (.slice (some ⟨g, 0, none⟩) 0 0) 0 [] := by subst h; exact owns_empty w B e 1 hB
theorem owns_rd' {w : World} {B : Nat} {e : TypeId} {A : Option Addr} {n c : Nat} {l : List UInt8} (h : w.ownsRow B e 1 (.slice A n c) n (bc l)) : Rd w A n c l := by
  obtain ⟨A', c', hv, hr⟩ := owns_rd h
  cases hv; exact hr
theorem row_up {B : Nat} {v : Value} (h : ∃ (W : World) (e : TypeId) (s n : Nat) (xs : List Value), W.ownsRow B e s v n xs) : ∀ k, v.ownBlock = some k → B ≤ k := by
  obtain ⟨W, e, s, n, xs, h⟩ := h
  exact fun k hk => (h.lt k hk).1

def ReadRes (r : List (Int × Int) × List UInt8 × Bool) (w : World) (e : Ending) (w' : World) : Prop :=
  ∃ v A c, e = .returned (.agg #[v, .slice A r.2.1.length c, .bool r.2.2]) ∧ w'.ownsRow w.heap.size 43 2 v r.1.length (kc r.1) ∧ Rd w' A r.2.1.length c r.2.1 ∧ Below w.heap.size w w'

theorem rdM_nil (d : Nat) (p : Bool) : rdM d [] p = ([], [], p) := by cases d <;> rfl
theorem rdM_held {d : Nat} {x : UInt8} {r : List UInt8} {p : Bool} (h : (kStep x r p).2.2 ≠ 0) : rdM (d + 1) (x :: r) p = ([], x :: r, p) := by rw [rdM, if_pos h]
theorem rdM_step {d : Nat} {x : UInt8} {r : List UInt8} {p : Bool} (h : (kStep x r p).2.2 = 0) : rdM (d + 1) (x :: r) p = ((kStep x r p).1 :: (rdM d ((x :: r).drop (kStep x r p).2.1) (pNext (kStep x r p).1.1 p)).1, (rdM d ((x :: r).drop (kStep x r p).2.1) (pNext (kStep x r p).1.1 p)).2) := by
  rw [rdM, if_neg (by omega)]

theorem rdI_held {l : List UInt8} {k d L : Nat} {ks : List (Int × Int)} {p : Bool} {x : UInt8} {r : List UInt8} (hS : rdM L l false = (ks ++ (rdM d (x :: r) p).1, (rdM d (x :: r) p).2)) (hxr : l.drop k = x :: r) (hd : l.length ≤ k + d)
    (hst : (kStep x r p).2.2 ≠ 0) : rdM L l false = (ks, x :: r, p) := by
  have := congrArg List.length hxr
  simp at this
  obtain ⟨e, rfl⟩ : ∃ e, d = e + 1 := ⟨d - 1, by omega⟩
  rw [hS, rdM_held hst]; simp
theorem rdI_step {l : List UInt8} {k d L mm : Nat} {kk ch : Int} {ks : List (Int × Int)} {p p' : Bool} {x : UInt8} {r : List UInt8} (hS : rdM L l false = (ks ++ (rdM d (x :: r) p).1, (rdM d (x :: r) p).2)) (hxr : l.drop k = x :: r) (hd : l.length ≤ k + d)
    (hst : kStep x r p = ((kk, ch), mm, 0)) (hp : pNext kk p = p') : rdM L l false = ((ks ++ [(kk, ch)]) ++ (rdM (d - 1) (l.drop (k + mm)) p').1, (rdM (d - 1) (l.drop (k + mm)) p').2) := by
  have := congrArg List.length hxr
  simp at this
  obtain ⟨e, rfl⟩ : ∃ e, d = e + 1 := ⟨d - 1, by omega⟩
  rw [hS, rdM_step (by rw [hst]), hst]
  simp only [Nat.add_sub_cancel, hp, ← hxr, List.drop_drop, List.append_assoc, List.cons_append, List.nil_append]
theorem kStep_esc {x : UInt8} {r : List UInt8} {p : Bool} {kk : Int} {mm er : Nat} (hx : x.toNat = 27) (h : eNext (x :: r) = (kk, mm, er)) : kStep x r p = ((if (p = true ∧ kk ≠ 14) ∨ (p = false ∧ kk = 14) then 15 else kk, 0), mm, er) := by
  rw [kStep, if_pos hx, h]

/-! ### lengths and errors -/
theorem escan_len (l : List UInt8) (O : Bool) : ∀ (d i : Nat) (ot : Bool), 1 ≤ i → i ≤ l.length → (1 ≤ (escan l O d i ot).2.1 ∧ (escan l O d i ot).2.1 ≤ l.length) ∧ ((escan l O d i ot).2.2 = 0 ∨ ((escan l O d i ot).2.2 = 7 ∧ (escan l O d i ot).1 = 0))
  | 0, i, ot, h1, h2 => by simp [escan]; omega
  | d + 1, i, ot, h1, h2 => by
    simp only [escan]
    (repeat' split)
    · exact ⟨⟨by simp, by simp; omega⟩, Or.inl rfl⟩
    · exact ⟨⟨by simpa using h1, by simpa using h2⟩, Or.inl rfl⟩
    · exact escan_len l O d (i + 1) ot (by omega) (by omega)
    · exact escan_len l O d (i + 1) true (by omega) (by omega)
    · exact ⟨⟨by simpa using h1, by simpa using h2⟩, Or.inl rfl⟩
    · exact ⟨⟨by simp only; omega, by simp⟩, Or.inr ⟨rfl, rfl⟩⟩
theorem eNext_len (x : UInt8) (r : List UInt8) (hx : x.toNat = 27) : (1 ≤ (eNext (x :: r)).2.1 ∧ (eNext (x :: r)).2.1 ≤ (x :: r).length) ∧ ((eNext (x :: r)).2.2 = 0 ∨ ((eNext (x :: r)).2.2 = 7 ∧ (eNext (x :: r)).1 = 0)) := by
  match r with
  | [] => rw [eNext, if_pos hx]; simp
  | y :: r =>
    rw [eNext, if_pos hx]
    split
    · simp
    · exact escan_len _ _ _ _ _ (by omega) (by simp)
theorem ugo_len (a : Nat) : ∀ (k i c : Nat) (r : List UInt8), (i ≤ (ugo a k i c r).2.1 ∧ (ugo a k i c r).2.1 ≤ i + r.length) ∧ ((ugo a k i c r).2.2 = 0 ∨ (ugo a k i c r).2.2 = 7 ∨ (ugo a k i c r).2.2 = 8) ∧ ((ugo a k i c r).2.2 = 7 → (ugo a k i c r).1 = 0)
  | 0, i, c, r => by simp [ugo]
  | k + 1, i, c, [] => by simp [ugo]
  | k + 1, i, c, y :: r => by
    rw [ugo]
    split
    · simp
    · have h := ugo_len a k (i + 1) (64 * c + y.toNat - 128) r
      refine ⟨⟨by omega, ?_⟩, h.2⟩
      simp only [List.length_cons]; omega
theorem uNext_len (x : UInt8) (r : List UInt8) : (1 ≤ (uNext (x :: r)).2.1 ∧ (uNext (x :: r)).2.1 ≤ (x :: r).length) ∧ ((uNext (x :: r)).2.2 = 0 ∨ (uNext (x :: r)).2.2 = 7 ∨ (uNext (x :: r)).2.2 = 8) ∧ ((uNext (x :: r)).2.2 = 7 → (uNext (x :: r)).1 = 0) := by
  rw [uNext]
  split
  · simp
  · split
    · simp
    · have h := ugo_len x.toNat (usize x.toNat - 1) 1 (if usize x.toNat = 3 then x.toNat % 16 else if usize x.toNat = 4 then x.toNat % 8 else x.toNat % 32) r
      refine ⟨⟨h.1.1, ?_⟩, h.2⟩
      simp only [List.length_cons]; omega
theorem keyL_kind : ∀ (L : List (Int × Int)) (c : Int), (∀ p ∈ L, p.2 ≠ 13 ∧ p.2 ≠ 14) → (L.lookup c).getD 15 ≠ 13 ∧ (L.lookup c).getD 15 ≠ 14
  | [], c, _ => by simp
  | (a, k) :: r, c, h => by
    rw [List.lookup_cons]
    split
    · exact h (a, k) (by simp)
    · exact keyL_kind r c (fun p hp => h p (by simp [hp]))
theorem kOf_kind (c : Int) : (kOf c).1 ≠ 13 ∧ (kOf c).1 ≠ 14 := by
  unfold kOf
  split
  · simp
  · exact keyL_kind keyL c (by simp [keyL])
theorem kOf_no (c : Int) : (kOf c).1 ≠ 0 → (kOf c).2 = 0 := by
  unfold kOf
  split
  · simp
  · simp
theorem kOf_bad : kOf 65533 = (0, 65533) := by decide
theorem kOf_0 : kOf 0 = (15, 0) := by decide
end Go.Proofs.YtnogcpjfgnpbbaaDoor
