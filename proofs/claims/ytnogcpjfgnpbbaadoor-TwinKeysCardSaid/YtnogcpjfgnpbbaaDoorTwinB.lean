/- The contracts of one, twin.order, twin.all at a plan of one item. Conditions: sizes within what a machine holds. -/
import Derived.Test.YtnogcpjfgnpbbaaDoorTwinA
import Derived.Test.YtnogcpjfgnpbbaaDoorPRead
import Derived.Laws.MakeOwn
set_option linter.unusedSimpArgs false
set_option linter.unusedVariables false
namespace Go.Proofs.YtnogcpjfgnpbbaaDoor
open Go.RowKit

/-! ### a plan of one item -/
/-- the plan's value -/
def plan1 (A : Option Addr) (c : Nat) : Value := .agg #[.int .u32 0, .int .u8 0, .int .u8 0, .slice A 1 c, .slice none 0 0, .slice none 0 0, .slice none 0 0]
/-- an item that types bytes -/
def itm (A : Option Addr) (n c : Nat) (l : List UInt8) : It := ⟨0, 0, 0, A, n, c, l⟩

theorem bytes_rd (W : World) (e : TypeId) (l : List UInt8) (hl : l.length ≤ 9223372036854775807) : Rd (Lib.bytesWorld W e ⟨l.toArray⟩) (some ⟨W.heap.size, 0, none⟩) l.length (grownCap W l.length 0 e) l where
  len := rfl
  le := grownCap_ge W l.length 0 e
  big := by have := grownCap_le_maxLen W l.length 0 e (by unfold maxLen; exact hl); simpa [maxLen] using this
  nil := by simp
  spot := by intro ad e; cases e; rfl
  cell := by
    intro b off e' j x hj
    cases e'
    have hlt := (List.getElem?_eq_some_iff.1 hj).1
    rw [Nat.zero_add, Lib.bytesWorld_cell W e _ j (by simpa [ByteArray.size] using hlt)]
    simp [List.getD_eq_getElem?_getD, hj]

theorem Rd.block {w w' : World} {b off n c : Nat} {l : List UInt8} (h : Rd w (some ⟨b, off, none⟩) n c l) (e : w'.heap[b]? = w.heap[b]?) : Rd w' (some ⟨b, off, none⟩) n c l :=
  ⟨h.len, h.le, h.big, h.nil, h.spot, fun b' off' e' j x hj => by cases e'; exact (World.cell?_of_block (w := w) (a := ⟨b, off + j, none⟩) e).trans (h.cell b off rfl j x hj)⟩
theorem heap_alloc_at (w : World) (o : Obj) (g : Nat) (hg : g = w.heap.size) : (w.alloc o).heap[g]? = some o := by subst hg; exact heap_alloc_new w o
theorem item_its {w : World} {b : Nat} {A : Option Addr} {n c : Nat} {l : List UInt8} {T : TypeId} (h : w.heap[b]? = some (.cells #[.float .f64 0, .int .i64 0, .int .i64 0, .slice A n c] T (0, 0))) (hr : Rd w A n c l) : Its w (some ⟨b, 0, none⟩) 1 1 [itm A n c l] where
  len := rfl
  le := Nat.le_refl _
  big := by omega
  nil := by simp
  spot := by intro ad e; cases e; rfl
  cell := by
    intro b' off e j x hj
    cases e
    match j, hj with
    | 0, hj =>
      simp at hj; subst hj
      refine ⟨?_, ?_, ?_, ?_, hr⟩ <;> simp [World.cell?, h, itm]
    | j + 1, hj => simp at hj
theorem ownBytes_rd (W : World) (e : TypeId) (l : List UInt8) : ((Lib.bytesWorld W e ⟨l.toArray⟩).heap[W.heap.size]?).isSome = true := by rw [Lib.bytesWorld_at_new]; rfl

def OneRes (l : List UInt8) (w : World) (e : Ending) (w' : World) : Prop :=
  ∃ b A c, e = .returned (plan1 (some ⟨b, 0, none⟩) 1) ∧ Its w' (some ⟨b, 0, none⟩) 1 1 [itm A l.length c l] ∧ Below w.heap.size w w'
theorem cells7 {W : World} {b : Nat} {a0 a1 a2 a3 a4 a5 a6 : Value} {T : TypeId} (h : W.heap[b]? = some (.cells #[a0, a1, a2, a3, a4, a5, a6] T (0, 0))) :
    (W.cell? ⟨b, 0, none⟩ = some a0 ∧ W.cell? ⟨b, 1, none⟩ = some a1 ∧ W.cell? ⟨b, 2, none⟩ = some a2 ∧ W.cell? ⟨b, 3, none⟩ = some a3 ∧ W.cell? ⟨b, 4, none⟩ = some a4 ∧ W.cell? ⟨b, 5, none⟩ = some a5 ∧ W.cell? ⟨b, 6, none⟩ = some a6) ∧
    ∀ j, W.frozen? ⟨b, j, none⟩ = false := by
  refine ⟨⟨?_, ?_, ?_, ?_, ?_, ?_, ?_⟩, ?_⟩ <;> simp [World.cell?, World.frozen?, h]
/-- a plan without anything -/
def noPlan : Obj := .cells #[.int .u32 0, .int .u8 0, .int .u8 0, .slice none 0 0, .slice none 0 0, .slice none 0 0, .slice none 0 0] 30

set_option maxRecDepth 100000 in
set_option maxHeartbeats 1000000 in
theorem one_any (w : World) (l : List UInt8) (hl : l.length ≤ 1000000) :
    Calls Tryd.prog 6 #[.string ⟨l.toArray⟩] w fun e w' => OneRes l w e w' := by
  obtain ⟨w1, c, hk, hr, hB, hP, hs1⟩ : ∃ (w1 : World) (c : Nat), (convert 9 22 (.string ⟨l.toArray⟩)).run Tryd.prog (w.alloc noPlan) = .ok (.slice (some ⟨w.heap.size + 1, 0, none⟩) l.length c) w1 ∧ Rd w1 (some ⟨w.heap.size + 1, 0, none⟩) l.length c l ∧
      Below w.heap.size w w1 ∧ w1.heap[w.heap.size]? = some noPlan ∧ w.heap.size + 2 ≤ w1.heap.size := by
    have e := World.size_alloc w noPlan
    refine ⟨Lib.bytesWorld (w.alloc noPlan) 5 ⟨l.toArray⟩, _, ?_, e ▸ bytes_rd (w.alloc noPlan) 5 l (by omega), (Below.refl _ w).alloc (Nat.le_refl _) _ |>.trans (Joins.below_bytesWorld _ _ _ _ (by simp)), ?_, by rw [Lib.bytesWorld_size, e]; omega⟩
    · rw [← e]; exact Lib.run_convert_string_bytes (P := Tryd.prog) (w.alloc noPlan) 9 22 5 ⟨l.toArray⟩ (u := .string) Tryd.underlying9 Tryd.underlying22 Tryd.underlying5
    · rw [Lib.bytesWorld_at_old _ _ _ _ (by simp)]; exact heap_alloc_new w _
  have hs0 : w.heap.size < w1.heap.size := by omega
  unfold noPlan at hk hP
  obtain ⟨⟨c0, c1, c2, c3, c4, c5, c6⟩, hf⟩ := cells7 hP
  have hr' := Lib.hid hr; have hB' := Lib.hid hB; have hl' := Lib.hid hl
  clear hr hB hl hP
  go_enter Tryd.func6, Tryd.ntmps6
  go_wp2
  refine bodyPost_ret (v := plan1 (some ⟨w1.heap.size, 0, none⟩) 1) ?_ rfl ?_
  · simp [plan1, results, Tryd.results6, go_sem, hs0, c0, c1, c2, c3, c4, c5, c6, hf]
  · refine ⟨w1.heap.size, some ⟨w.heap.size + 1, 0, none⟩, c, rfl, item_its (heap_alloc_at _ _ _ (by simp)) ?_, ?_⟩
    · refine hr'.out.block ?_
      rw [Below.heap_alloc _ _ _ (by simp; omega)]
      repeat rw [Below.heap_setCell _ _ _ _ (by simp)]
    · have hb := hB'.out
      refine Below.alloc ?_ (by simp; omega) _
      with_reducible (repeat (first | exact hb | refine Below.setCell ?_ (by simp) _))
theorem insertion1_any (w : World) (A : Option Addr) (n c B : Nat) :
    Calls Tryd.prog 49 #[.slice A n c, .int .i64 0, .int .i64 1, .func (.func 32) #[] #[.pointer (some ⟨B, 0, none⟩)]] w fun e w' => (∃ v, e = .returned v) ∧ w = w' := by
  go_enter Tryd.func49, Tryd.ntmps49
  go_wp2
  go_loop [8] (fun i => i = .int .i64 1) (fun _ => 0)
  case atStart => rfl
  case round =>
    subst hrel
    go_wp2
    go_end0
    exact ⟨⟨_, rfl⟩, rfl⟩
theorem stable1_any (w : World) (A : Option Addr) (n c B : Nat) :
    Calls Tryd.prog 43 #[.slice A n c, .int .i64 1, .func (.func 32) #[] #[.pointer (some ⟨B, 0, none⟩)]] w fun e w' => (∃ v, e = .returned v) ∧ w = w' := by
  have hi := Lib.hid fun W => insertion1_any W A n c B
  go_enter Tryd.func43, Tryd.ntmps43
  go_wp2
  go_loop [7, 8] (fun a b => a = .int .i64 0 ∧ b = .int .i64 20) (fun _ _ => 0)
  case atStart => exact ⟨rfl, rfl⟩
  case round =>
    obtain ⟨rfl, rfl⟩ := hrel
    go_wp2_with (go_at_call 49; refine (hi.out _).mono ?_; rintro e w' ⟨⟨v, rfl⟩, rfl⟩)
    go_loop [6] (fun a => a = .int .i64 20) (fun _ => 0)
    case atStart => rfl
    case round =>
      subst hrel
      go_wp2
      go_end0
      exact ⟨⟨_, rfl⟩, rfl⟩
theorem sort1_any (w : World) (A : Option Addr) (c B : Nat) :
    Calls Tryd.prog 31 #[.slice A 1 c, .func (.func 32) #[] #[.pointer (some ⟨B, 0, none⟩)]] w fun e w' => (∃ v, e = .returned v) ∧ w = w' := by
  have hi := Lib.hid fun W => stable1_any W A 1 c B
  go_enter Tryd.func31, Tryd.ntmps31
  go_wp2_with (go_at_call 43; refine (hi.out _).mono ?_; rintro e w' ⟨⟨v, rfl⟩, rfl⟩)
  go_end0
  exact ⟨⟨_, rfl⟩, rfl⟩

theorem made1 : madeCells (Value.cells (.int .i64 0)) (1 * 1) = #[Value.int .i64 0] := by
  apply Array.toList_inj.1
  show (madeCells #[Value.int .i64 0] 1).toList = _
  rw [toList_madeCells_one]; rfl
def OrdRes (w : World) (e : Ending) (w' : World) : Prop := ∃ g, e = .returned (.slice (some ⟨g, 0, none⟩) 1 1) ∧ w'.cell? ⟨g, 0, none⟩ = some (.int .i64 0) ∧ Below w.heap.size w w'
set_option maxHeartbeats 1000000 in
theorem order1_any (w : World) (A : Option Addr) (c : Nat) :
    Calls Tryd.prog 18 #[plan1 A c] w fun e w' => OrdRes w e w' := by
  obtain ⟨ki, hki, hkz, hksz, hkby⟩ := info_parts info_i64
  have hmk := fun W => run_makeSlice (P := Tryd.prog) (w := W) 28 3 ki (.int .i64 0) Tryd.underlying28 hki hkz .i64 .i64 1 1 (by omega) (by omega) (by rw [hksz]; decide) (by rw [hkby]; decide) (by omega)
  simp only [hksz, show (1 : Int).toNat = 1 from rfl, made1] at hmk
  have hs := Lib.hid fun W => sort1_any W (some ⟨w.heap.size + 1, 0, none⟩) 1 w.heap.size
  unfold plan1
  clear hki hkz hksz hkby
  go_enter Tryd.func18, Tryd.ntmps18
  go_wp2
  go_loopw [11] (fun i wr => ∃ k : Nat, i = .int .i64 k ∧ k ≤ 1 ∧ wr.heap[w.heap.size + 1]? = some (.cells #[.int .i64 0] 3 (0, 0)) ∧ Hid (Below w.heap.size w wr)) (fun i _ => 1 - (intOf i).toNat)
  case atStart => exact ⟨0, rfl, by omega, heap_alloc_at _ _ _ (by simp), ((Below.refl _ _).alloc (Nat.le_refl _) _).alloc (by simp) _⟩
  case round =>
    obtain ⟨k, rfl, hk, hg, hB⟩ := hrel
    have hg' := Lib.hid hg
    have c0 : wr.cell? ⟨w.heap.size + 1, 0, none⟩ = some (.int .i64 0) := by simp [World.cell?, hg]
    have f0 : wr.frozen? ⟨w.heap.size + 1, 0, none⟩ = false := by simp [World.frozen?, hg]
    clear hg
    obtain rfl | rfl : k = 0 ∨ k = 1 := by omega
    · go_wp2
      go_roundw
      case rel => exact ⟨1, rfl, by omega, heap_setCell_same _ _ 0 _ _ _ hg'.out, hB.out.setCell (by simp) _⟩
      case measure => simp [intOf]
    · go_wp2_with (go_at_call 31; refine (hs.out _).mono ?_; rintro e w' ⟨⟨v, rfl⟩, rfl⟩)
      go_ret
      exact ⟨_, rfl, c0, hB.out⟩

theorem own_sl {w : World} {B : Nat} {e : TypeId} {s : Nat} {v : Value} {n : Nat} {xs : List Value} (h : w.ownsRow B e s v n xs) : ∃ A c, v = .slice A n c := by
  rcases Joins.ownsRow_forms h with ⟨rfl, rfl⟩ | ⟨g, c, rfl⟩
  · exact ⟨none, 0, rfl⟩
  · exact ⟨_, c, rfl⟩
def OwnRes (l : List UInt8) (w : World) (e : Ending) (w' : World) : Prop := ∃ A c, e = .returned (.slice A l.length c) ∧ w'.ownsRow w.heap.size 5 1 (.slice A l.length c) l.length (bc l) ∧ Below w.heap.size w w'
set_option maxRecDepth 100000 in
set_option maxHeartbeats 2000000 in
theorem all1_any (w : World) (b off ic : Nat) (A : Option Addr) (n c : Nat) (l : List UInt8) (h : Its w (some ⟨b, off, none⟩) 1 ic [itm A n c l]) (hn : n ≤ 1000000) :
    Calls Tryd.prog 11 #[plan1 (some ⟨b, off, none⟩) ic] w fun e w' => OwnRes l w e w' := by
  obtain ⟨_, _, _, c3, hd⟩ := h.cell b off rfl 0 _ rfl
  simp only [Nat.zero_mul, Nat.add_zero, itm] at c3 hd
  have hbs : b < w.heap.size := World.block_lt_of_cell? _ _ c3
  have hic := h.le; have hbig := h.big
  have ho := Lib.hid fun W => order1_any W (some ⟨b, off, none⟩) ic
  have hd' := Lib.hid hd
  have hln : Hid (l.length = n) := hd.len
  unfold plan1 at ho ⊢
  clear h hd
  go_enter Tryd.func11, Tryd.ntmps11
  go_wp2_with (go_at_call 18; refine (ho.out _).mono ?_; rintro e w1 ⟨g, rfl, hg, hB1⟩; have hBB := Lib.hid (((Below.refl _ w).alloc (Nat.le_refl _) _).trans (hB1.mono (by simp))); have hz := hB1.size; simp only [World.size_alloc] at hz)
  have p3 : w1.cell? ⟨w.heap.size, 3, none⟩ = some (.slice (some ⟨b, off, none⟩) 1 ic) := by
    rw [hB1.cell (by simp)]; exact (cell_of_row _ _ 3 _ _ _ (heap_alloc_new w _)).trans rfl
  have c3' := (hBB.out.cell (p := ⟨b, off + 3, none⟩) hbs).trans c3
  clear hB1 c3
  go_loopw [3, 9] (fun v i wr => ∃ k : Nat, i = .int .i64 k ∧ ((k = 0 ∧ v = .slice none 0 0 ∧ wr = w1) ∨ (k = 1 ∧ ∃ A' c', v = .slice A' n c' ∧ Hid (wr.ownsRow w.heap.size 5 1 (.slice A' n c') n (bc l)) ∧ Hid (Below w.heap.size w wr)))) (fun _ i _ => 1 - (intOf i).toNat)
  case atStart => exact ⟨0, rfl, Or.inl ⟨rfl, rfl, rfl⟩⟩
  case round =>
    obtain ⟨k, rfl, ⟨rfl, rfl, rfl⟩ | ⟨rfl, A', c', rfl, hr, hB⟩⟩ := hrel
    · go_wp2_with (at_builtin; refine wpList_append_rd rfl _ _ 22 rfl w.heap.size 5 Tryd.underlying22 info_u8 (.slice none 0 0) 0 [] rfl (owns_nil _ _ _ _) A n c l rfl (hd'.out.below hBB.out) (by omega) (by omega) ?_; intro v' w2 ho2 hg2 hnil; rw [Nat.zero_add, List.nil_append] at ho2; obtain ⟨A', c', rfl⟩ := own_sl ho2; have ho3 := Lib.hid ho2; have hB2 := Lib.hid (hBB.out.grown hg2 hBB.out.size (by simp [Value.ownBlock])); clear ho2 hg2 hnil)
      go_roundw
      case rel => exact ⟨1, rfl, Or.inr ⟨rfl, A', c', rfl, ho3, hB2⟩⟩
      case measure => simp [intOf]
    · go_wp2
      go_ret
      have h1 := hln.out
      subst h1
      exact ⟨A', c', rfl, hr.out, hB.out⟩
end Go.Proofs.YtnogcpjfgnpbbaaDoor
