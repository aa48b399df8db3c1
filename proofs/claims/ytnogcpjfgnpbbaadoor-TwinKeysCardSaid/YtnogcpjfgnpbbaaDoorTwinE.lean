/- The contract of whispererlaw20.alive. Conditions: the pinned tables of unicode/utf8. -/
import Derived.Test.YtnogcpjfgnpbbaaDoorTwinD
set_option linter.unusedSimpArgs false
set_option linter.unusedVariables false
namespace Go.Proofs.YtnogcpjfgnpbbaaDoor
open Go.RowKit

theorem tw1 : twinM 1 [97, 98, 13] = [98, 99, 13] := by decide +kernel
theorem tw2 : secretM [27, 97] = [] := by decide +kernel
theorem tw3 : twinM 1 [27, 195, 164] = [27, 195, 165] := by decide +kernel

/-- a plan in a block, and the bytes that its one item types -/
structure Alv (Q : Nat) (l : List UInt8) (W : World) : Prop where
  out : ∃ (g ic : Nat) (A : Option Addr) (c : Nat), 1 ≤ ic ∧ W.heap[Q]? = some (.cells #[.int .u32 0, .int .u8 0, .int .u8 0, .slice (some ⟨g, 0, none⟩) 1 ic, .slice none 0 0, .slice none 0 0, .slice none 0 0] 30 (0, 0)) ∧
    W.cell? ⟨g, 3, none⟩ = some (.slice A l.length c) ∧ Rd W A l.length c l
theorem Alv.next {Q : Nat} {l : List UInt8} {W W' : World} (h : Alv Q l W) (hb : Below W.heap.size W W') : Alv Q l W' := by
  obtain ⟨g, ic, A, c, h1, h2, h3, h4⟩ := h.out
  exact ⟨g, ic, A, c, h1, (hb.block Q (Array.getElem?_eq_some_iff.1 h2).1).trans h2, (hb.cell (World.block_lt_of_cell? _ _ h3)).trans h3, h4.below hb⟩

set_option maxRecDepth 100000 in
set_option maxHeartbeats 4000000 in
theorem alive_any (w : World) (hT : Tabs w) :
    Calls Tryd.prog 4 #[] w fun e w' => e = .returned (.bool true) ∧ Below w.heap.size w w' := by
  have o1 := Lib.hid fun W => one_any W [97, 98, 13] (by simp)
  have o2 := Lib.hid fun W => one_any W [27, 97] (by simp)
  have o3 := Lib.hid fun W => one_any W [27, 195, 164] (by simp)
  have p1 := Lib.hid fun W b A c hI hW => plan_any W b 0 1 A ([97, 98, 13] : List UInt8).length c [97, 98, 13] 1 hI (by simp) (hT.below hW) (by omega)
  have p3 := Lib.hid fun W b A c hI hW => plan_any W b 0 1 A ([27, 195, 164] : List UInt8).length c [27, 195, 164] 1 hI (by simp) (hT.below hW) (by omega)
  have c2 := Lib.hid fun W b A c hI hW => count_any W b 0 1 A ([27, 97] : List UInt8).length c [27, 97] hI (by simp) (hT.below hW)
  rw [tw1] at p1
  rw [tw3] at p3
  rw [tw2] at c2
  unfold OneRes plan1 at o1 o2 o3
  unfold PlanRes plan1 at p1 p3
  unfold plan1 at c2
  go_enter Tryd.func4, Tryd.ntmps4
  go_wp2_with (first | (go_at_call 6; with_reducible refine (o1.out _).mono ?_; rintro e w1 ⟨b1, A1, k1, rfl, hI1, hB1⟩; have hI1' := Lib.hid hI1; have hB1' := Lib.hid hB1; clear hI1 hB1) | (go_at_call 5; with_reducible refine (p1.out _ _ _ _ hI1'.out hB1'.out).mono ?_; rintro e w2 ⟨g2, i2, A2, k2, rfl, h21, h22, h23, hB2⟩; have hB2' := Lib.hid (hB1'.out.trans (hB2.mono hB1'.out.size)); have h22' := Lib.hid h22; have h23' := Lib.hid h23; clear h22 h23 hB2) | (go_at_call 6; with_reducible refine (o2.out _).mono ?_; rintro e w3 ⟨b3, A3, k3, rfl, hI3, hB3⟩; have hV2 : Alv w2.heap.size [98, 99, 13] (w2.alloc (.cells #[.int .u32 0, .int .u8 0, .int .u8 0, .slice (some ⟨g2, 0, none⟩) 1 i2, .slice none 0 0, .slice none 0 0, .slice none 0 0] 30)) := ⟨g2, i2, A2, k2, h21, heap_alloc_new w2 _, (((Below.refl _ w2).alloc (Nat.le_refl _) _).cell (World.block_lt_of_cell? _ _ h22'.out)).trans h22'.out, h23'.out.below ((Below.refl _ w2).alloc (Nat.le_refl _) _)⟩; have hV3 := Lib.hid (hV2.next hB3); have hB3' := Lib.hid ((hB2'.out.alloc hB2'.out.size _).trans (hB3.mono (Nat.le_trans hB2'.out.size (by simp)))); have hI3' := Lib.hid hI3; clear hB3 hI3 hV2) | (go_at_call 9; with_reducible refine (c2.out _ _ _ _ hI3'.out hB3'.out).mono ?_; rintro e w4 ⟨rfl, hB4⟩; have hV4 := Lib.hid (hV3.out.next hB4); have hB4' := Lib.hid (hB3'.out.trans (hB4.mono hB3'.out.size)); clear hB4) | (go_at_call 6; with_reducible refine (o3.out _).mono ?_; rintro e w5 ⟨b5, A5, k5, rfl, hI5, hB5⟩; have hV5 := Lib.hid (hV4.out.next hB5); have hB5' := Lib.hid (hB4'.out.trans (hB5.mono hB4'.out.size)); have hI5' := Lib.hid hI5; clear hB5 hI5) | (go_at_call 5; with_reducible refine (p3.out _ _ _ _ hI5'.out hB5'.out).mono ?_; rintro e w6 ⟨g6, i6, A6, k6, rfl, h61, h62, h63, hB6⟩; have hV6 := Lib.hid (hV5.out.next hB6); have hB6' := Lib.hid (hB5'.out.trans (hB6.mono hB5'.out.size)); clear hB6; obtain ⟨gV, iV, AV, kV, v1, v2, v3, v4⟩ := hV6.out.out; obtain ⟨⟨c0, c1, cc2, c3, c4, c5, c6⟩, _⟩ := cells7 v2; have hs6 := (Array.getElem?_eq_some_iff.1 v2).1; have hgs := World.block_lt_of_cell? _ _ v3; have hgs6 := World.block_lt_of_cell? _ _ h62; obtain ⟨bV, oV, rfl⟩ := v4.addr (by simp); obtain ⟨b6, o6, rfl⟩ := h63.addr (by simp); have sV := (v4.below ((Below.refl _ w6).alloc (Nat.le_refl _) (.cells #[.int .u32 0, .int .u8 0, .int .u8 0, .slice (some ⟨g6, 0, none⟩) 1 i6, .slice none 0 0, .slice none 0 0, .slice none 0 0] 30))).str (P := Tryd.prog) 22 9 5 Tryd.underlying22 Tryd.underlying5 Tryd.underlying9; have s6 := (h63.below ((Below.refl _ w6).alloc (Nat.le_refl _) (.cells #[.int .u32 0, .int .u8 0, .int .u8 0, .slice (some ⟨g6, 0, none⟩) 1 i6, .slice none 0 0, .slice none 0 0, .slice none 0 0] 30))).str (P := Tryd.prog) 22 9 5 Tryd.underlying22 Tryd.underlying5 Tryd.underlying9; simp only [List.length_cons, List.length_nil, Nat.zero_add, Nat.reduceAdd] at sV s6; clear v2 v4 h63))
  go_ret
  exact ⟨rfl, hB6'.out.alloc hB6'.out.size _⟩
end Go.Proofs.YtnogcpjfgnpbbaaDoor
