/- The contract of whispererlaw20.TwinKeys. Conditions: the pinned tables of unicode/utf8; a plain law on keys (hPL). -/
import Derived.Test.YtnogcpjfgnpbbaaDoorTwinE
import Derived.Test.YtnogcpjfgnpbbaaDoorReadA
import Derived.Test.YtnogcpjfgnpbbaaDoorPTwin
import Derived.Deep.RegionHeld3
import Derived.Deep.DrawnRows
import Derived.Deep.CutRange
set_option linter.unusedSimpArgs false
set_option linter.unusedVariables false
namespace Go.Proofs.YtnogcpjfgnpbbaaDoor
open Go.RowKit
attribute [local go_sem] Go.wp_at_zero Go.wp_at_succ

/-- a Told in a block -/
structure ToldAt (B base : Nat) (r : List (Int × Int) × List UInt8 × Bool) (wr : World) : Prop where
  out : ∃ (A : Option Addr) (c : Nat) (H : Option Addr) (hc : Nat), wr.heap[B]? = some (.cells #[.slice A r.1.length c, .slice H r.2.1.length hc, .bool r.2.2] 37 (0, 0)) ∧
    wr.ownsRow base 43 2 (.slice A r.1.length c) r.1.length (kc r.1) ∧ Rd wr H r.2.1.length hc r.2.1
theorem ToldAt.next {B base : Nat} {r : List (Int × Int) × List UInt8 × Bool} {W W' : World} (h : ToldAt B base r W) (hb : Below W.heap.size W W') : ToldAt B base r W' := by
  obtain ⟨A, c, H, hc, h1, h2, h3⟩ := h.out
  exact ⟨A, c, H, hc, (hb.block B (Array.getElem?_eq_some_iff.1 h1).1).trans h1, ownsRow_mem h2 hb, h3.below hb⟩
/-- the two, apart -/
structure TwoTold (w W : World) (B7 B8 : Nat) (r s : List (Int × Int) × List UInt8 × Bool) (wr : World) : Prop where
  below : Below w.heap.size w wr
  b7 : W.heap.size ≤ B7
  b8 : W.heap.size ≤ B8
  ne : B7 ≠ B8
  t7 : ToldAt B7 W.heap.size r wr
  t8 : ToldAt B8 W.heap.size s wr
/-- an empty Told -/
def Zero3 (B : Nat) (wr : World) : Prop := wr.heap[B]? = some (.cells #[.slice none 0 0, .slice none 0 0, .bool false] 37 (0, 0))
theorem Zero3.cells {B : Nat} {W : World} (h : Zero3 B W) : (W.cell? ⟨B, 0, none⟩ = some (.slice none 0 0) ∧ W.cell? ⟨B, 1, none⟩ = some (.slice none 0 0) ∧ W.cell? ⟨B, 2, none⟩ = some (.bool false)) ∧
    W.frozen? ⟨B, 0, none⟩ = false ∧ W.frozen? ⟨B, 1, none⟩ = false ∧ W.frozen? ⟨B, 2, none⟩ = false := by
  unfold Zero3 at h
  refine ⟨⟨?_, ?_, ?_⟩, ?_, ?_, ?_⟩ <;> simp [World.cell?, World.frozen?, h]
theorem cells3 {B : Nat} {W : World} {a b d : Value} {T : TypeId} (h : W.heap[B]? = some (.cells #[a, b, d] T (0, 0))) : (W.cell? ⟨B, 0, none⟩ = some a ∧ W.cell? ⟨B, 1, none⟩ = some b ∧ W.cell? ⟨B, 2, none⟩ = some d) ∧
    W.frozen? ⟨B, 0, none⟩ = false ∧ W.frozen? ⟨B, 1, none⟩ = false ∧ W.frozen? ⟨B, 2, none⟩ = false := by
  refine ⟨⟨?_, ?_, ?_⟩, ?_, ?_, ?_⟩ <;> simp [World.cell?, World.frozen?, h]
theorem Zero3.lt {B : Nat} {W : World} (h : Zero3 B W) : B < W.heap.size := (Array.getElem?_eq_some_iff.1 (show W.heap[B]? = some _ from h)).1
theorem Zero3.next {B : Nat} {W W' : World} (h : Zero3 B W) (hb : Below W.heap.size W W') : Zero3 B W' := (hb.block B (Array.getElem?_eq_some_iff.1 h).1).trans h
theorem zero3_two (W : World) (o : Obj) : Zero3 (W.heap.size + 1) ((W.alloc o).alloc (.cells #[.slice none 0 0, .slice none 0 0, .bool false] 37)) := heap_alloc_at _ _ _ (by simp)
theorem zero3_new (W : World) (B : Nat) (hB : B = W.heap.size) : Zero3 B (W.alloc (.cells #[.slice none 0 0, .slice none 0 0, .bool false] 37)) := heap_alloc_at _ _ _ hB
theorem zero3_two' (W : World) : Zero3 W.heap.size ((W.alloc (.cells #[.slice none 0 0, .slice none 0 0, .bool false] 37)).alloc (.cells #[.slice none 0 0, .slice none 0 0, .bool false] 37)) := (zero3_new W _ rfl).next ((Below.refl _ _).alloc (Nat.le_refl _) _)

/-- three cells of a block, stored -/
abbrev T3 (W : World) (B : Nat) (a b d : Value) : World := ((W.setCell ⟨B, 0, none⟩ a).setCell ⟨B, 1, none⟩ b).setCell ⟨B, 2, none⟩ d
theorem T3_other (W : World) (B : Nat) (a b d : Value) (k : Nat) (h : k ≠ B) : (T3 W B a b d).heap[k]? = W.heap[k]? :=
  (Below.heap_setCell _ ⟨B, 2, none⟩ _ k h).trans ((Below.heap_setCell _ ⟨B, 1, none⟩ _ k h).trans (Below.heap_setCell _ ⟨B, 0, none⟩ _ k h))
theorem T3_same {W : World} {B : Nat} (h : Zero3 B W) (a b d : Value) : (T3 W B a b d).heap[B]? = some (.cells #[a, b, d] 37 (0, 0)) := by
  have h0 := heap_setCell_same _ B 2 _ _ d (heap_setCell_same _ B 1 _ _ b (heap_setCell_same _ B 0 _ _ a h))
  simpa using h0
theorem T3_size (W : World) (B : Nat) (a b d : Value) : (T3 W B a b d).heap.size = W.heap.size := by simp [T3]
theorem T3_below {m : Nat} {w W : World} {B : Nat} (h : Below m w W) (hB : m ≤ B) (a b d : Value) : Below m w (T3 W B a b d) :=
  ((h.setCell (p := ⟨B, 0, none⟩) hB a).setCell (p := ⟨B, 1, none⟩) hB b).setCell (p := ⟨B, 2, none⟩) hB d
theorem T3_rd {W : World} {B : Nat} (hz : Zero3 B W) (a b d : Value) {A : Option Addr} {n c : Nat} {l : List UInt8} (h : Rd W A n c l) : Rd (T3 W B a b d) A n c l := by
  cases A with
  | none => exact ⟨h.len, h.le, h.big, h.nil, h.spot, fun _ _ e => nomatch e⟩
  | some ad =>
    obtain ⟨g, off, sp⟩ := ad
    have h1 := h.spot _ rfl; simp at h1; subst h1
    refine ⟨h.len, h.le, h.big, h.nil, h.spot, fun b' off' e j x hj => ?_⟩
    cases e
    have h2 := h.cell g off rfl j x hj
    have hne : g ≠ B := by
      rintro rfl
      unfold Zero3 at hz
      simp only [World.cell?, hz] at h2
      match hq : off + j with
      | 0 => rw [hq] at h2; simp at h2
      | 1 => rw [hq] at h2; simp at h2
      | 2 => rw [hq] at h2; simp at h2
      | q + 3 => rw [hq] at h2; simp at h2
    exact (World.cell?_of_block (w := W) (w' := T3 W B a b d) (a := ⟨g, off + j, none⟩) (T3_other W B a b d g hne)).trans h2
theorem T3_row {W : World} {B : Nat} (hz : Zero3 B W) (a b d : Value) {base : Nat} {v : Value} {n : Nat} {xs : List Value} (h : W.ownsRow base 43 2 v n xs) : (T3 W B a b d).ownsRow base 43 2 v n xs := by
  have hne : v.ownBlock ≠ some B := by
    intro e
    rcases h.2 with ⟨rfl, _⟩ | ⟨g, cap, cur, rfl, _, hg, _⟩
    · simp [Value.ownBlock] at e
    · simp [Value.ownBlock] at e
      subst e
      unfold Zero3 at hz
      rw [hz] at hg; injection hg with hg; injection hg with _ hg; exact absurd hg (by decide)
  exact ownsRow_setCell_other (ownsRow_setCell_other (ownsRow_setCell_other h (a := ⟨B, 0, none⟩) hne a) (a := ⟨B, 1, none⟩) hne b) (a := ⟨B, 2, none⟩) hne d
theorem rd_alloc {W : World} {A : Option Addr} {n c : Nat} {l : List UInt8} (h : Rd W A n c l) (o : Obj) : Rd (W.alloc o) A n c l := h.below ((Below.refl _ _).alloc (Nat.le_refl _) o)
theorem T3_rd' {W : World} {B : Nat} (a b d : Value) {A : Option Addr} {n c : Nat} {l : List UInt8} (h : Rd W A n c l) (hz : Zero3 B W) : Rd (T3 W B a b d) A n c l := T3_rd hz a b d h
theorem T3_row' {W : World} {B : Nat} (a b d : Value) {base : Nat} {v : Value} {n : Nat} {xs : List Value} (h : W.ownsRow base 43 2 v n xs) (hz : Zero3 B W) : (T3 W B a b d).ownsRow base 43 2 v n xs := T3_row hz a b d h
theorem T3_zero {W : World} {B B' : Nat} (hz : Zero3 B' W) (hne : B' ≠ B) (a b d : Value) : Zero3 B' (T3 W B a b d) := (T3_other W B a b d B' hne).trans hz

theorem Rd.strA {P : Program} {w : World} {A : Option Addr} {n c : Nat} {l : List UInt8} (h : Rd w A n c l) (src dst e : TypeId) (hs : P.underlying src = some (.slice e)) (he : P.underlying e = some (.int .u8)) (hd : P.underlying dst = some .string) :
    (convert src dst (.slice A n c)).run P w = .ok (.string ⟨l.toArray⟩) w := by
  cases A with
  | none =>
    obtain ⟨rfl, rfl⟩ := h.nil rfl
    have hl : l = [] := List.eq_nil_of_length_eq_zero h.len
    subst hl
    have := run_convert_bytes_nil (P := P) (w := w) src e hs he 0 0 dst hd
    rw [this]; rfl
  | some ad =>
    obtain ⟨b, off, sp⟩ := ad
    have := h.spot _ rfl; simp at this; subst this
    exact h.str src dst e hs he hd

set_option maxRecDepth 100000 in
set_option maxHeartbeats 4000000 in
theorem law_any (w : World) (A : Option Addr) (n c : Nat) (l : List UInt8) (by_ : Int) (h : Rd w A n c l) (hT : Tabs w) (hby : -9223372036854775808 ≤ by_ ∧ by_ ≤ 9223372036854775807) :
    Calls Tryd.prog 3 #[.slice A n c, .int .i64 by_] w fun e w' => e = .returned (.bool true) ∧ Below w.heap.size w w' := by
  have hln := h.len
  subst hln
  have hal := Lib.hid fun W hW => alive_any W (hT.below hW)
  by_cases hbig : (800 : Int) < l.length
  · clear h
    go_enter Tryd.func3, Tryd.ntmps3
    go_wp2_with (first | (go_at_call 4; with_reducible refine (hal.out _ (Below.refl _ _)).mono ?_; rintro e w1 ⟨rfl, hB1⟩) | (go_at_call 4; with_reducible refine (hal.out _ hB1).mono ?_; rintro e w2 ⟨rfl, hB2⟩))
    go_ret
    exact ⟨rfl, hB1.trans (hB2.mono hB1.size)⟩
  · have hsm : (l.length : Int) ≤ 800 := by omega
    have hP := Lib.hid (read_twin by_ l)
    have hrd0 := Lib.hid fun W hW => read_any W A l.length c l (h.below hW) (by omega)
    have hone := Lib.hid fun W => one_any W l (by omega)
    have hpln := Lib.hid fun W b2 A2 c2 hI hW => plan_any W b2 0 1 A2 l.length c2 l by_ hI (by omega) (hT.below hW) hby
    have hst := fun W (hW : Below w.heap.size w W) => (h.below hW).strA (P := Tryd.prog) 22 9 5 Tryd.underlying22 Tryd.underlying5 Tryd.underlying9
    have hst' := Lib.hid hst
    unfold OneRes plan1 at hone
    unfold PlanRes plan1 at hpln
    clear h hst
    go_enter Tryd.func3, Tryd.ntmps3
    go_wp2_with (first | (go_at_call 4; with_reducible refine (hal.out _ (Below.refl _ _)).mono ?_; rintro e w1 ⟨rfl, hB1⟩; have hcv := hst'.out w1 hB1) | (go_at_call 6; with_reducible refine (hone.out _).mono ?_; rintro e w2 ⟨b2, A2, k2, rfl, hI2, hB2⟩; have hI2' := Lib.hid hI2; have hB2' := Lib.hid (hB1.trans (hB2.mono hB1.size)); clear hI2 hB2) | (go_at_call 5; with_reducible refine (hpln.out _ _ _ _ hI2'.out hB2'.out).mono ?_; rintro e w3 ⟨g3, i3, A3, k3, rfl, h31, h32, h33, hB3⟩; have hB3' := Lib.hid (hB2'.out.trans (hB3.mono hB2'.out.size)); have hgs3 := World.block_lt_of_cell? _ _ h32; have h33' := Lib.hid h33; clear h33 hB3))
    have hB4 := hB3'.out.alloc hB3'.out.size (.cells #[.int .u32 0, .int .u8 0, .int .u8 0, .slice (some ⟨g3, 0, none⟩) 1 i3, .slice none 0 0, .slice none 0 0, .slice none 0 0] 30)
    have x4 : (w3.alloc (.cells #[.int .u32 0, .int .u8 0, .int .u8 0, .slice (some ⟨g3, 0, none⟩) 1 i3, .slice none 0 0, .slice none 0 0, .slice none 0 0] 30)).cell? ⟨w3.heap.size, 3, none⟩ = some (.slice (some ⟨g3, 0, none⟩) 1 i3) := (cell_of_row _ _ 3 _ _ _ (heap_alloc_new w3 _)).trans rfl
    have y4 : (w3.alloc (.cells #[.int .u32 0, .int .u8 0, .int .u8 0, .slice (some ⟨g3, 0, none⟩) 1 i3, .slice none 0 0, .slice none 0 0, .slice none 0 0] 30)).cell? ⟨g3, 3, none⟩ = some (.slice A3 (twinM by_ l).length k3) := (((Below.refl _ w3).alloc (Nat.le_refl _) _).cell hgs3).trans h32
    have r4 := h33'.out.below ((Below.refl _ w3).alloc (Nat.le_refl _) (.cells #[.int .u32 0, .int .u8 0, .int .u8 0, .slice (some ⟨g3, 0, none⟩) 1 i3, .slice none 0 0, .slice none 0 0, .slice none 0 0] 30))
    have s4 : w3.heap.size < (w3.alloc (.cells #[.int .u32 0, .int .u8 0, .int .u8 0, .slice (some ⟨g3, 0, none⟩) 1 i3, .slice none 0 0, .slice none 0 0, .slice none 0 0] 30)).heap.size := by simp
    generalize w3.alloc (.cells #[.int .u32 0, .int .u8 0, .int .u8 0, .slice (some ⟨g3, 0, none⟩) 1 i3, .slice none 0 0, .slice none 0 0, .slice none 0 0] 30) = W4 at *
    have hlt4 : g3 < W4.heap.size := by omega
    have hB4' := Lib.hid hB4
    have hrdt := Lib.hid fun W (hW : Below W4.heap.size W4 W) => read_any W A3 _ k3 _ (r4.below hW) (by rw [twinM_len]; omega)
    unfold ReadRes at hrd0 hrdt
    have hsz4 := hB4.size
    have rn1 : ¬ W4.heap.size = w3.heap.size := by omega
    have rn2 : ¬ W4.heap.size + 1 = w3.heap.size := by omega
    have rn3 : ¬ W4.heap.size = g3 := by omega
    have rn4 : ¬ W4.heap.size + 1 = g3 := by omega
    have n1 : ¬ w3.heap.size = W4.heap.size := by omega
    have n2 : ¬ w3.heap.size = W4.heap.size + 1 := by omega
    have n3 : ¬ g3 = W4.heap.size := by omega
    have n4 : ¬ g3 = W4.heap.size + 1 := by omega
    clear hB4 r4 hT hal hone hpln hst' hcv hB1
    go_cut [7, 8] from 36 to 43 (fun q7 q8 wr => ∃ B7 B8 : Nat, q7 = .pointer (some ⟨B7, 0, none⟩) ∧ q8 = .pointer (some ⟨B8, 0, none⟩) ∧ Hid (TwoTold w W4 B7 B8 (readM l) (readM (twinM by_ l)) wr))
    case first =>
      go_region_held3 (fun w' => w'.cell? ⟨w3.heap.size, 3, none⟩ = some (.slice (some ⟨g3, 0, none⟩) 1 i3) ∧ w'.cell? ⟨g3, 3, none⟩ = some (.slice A3 (twinM by_ l).length k3)) (go_keep) (first | (go_at_call 7; with_reducible refine (hrd0.out _ (Below.trans hB4'.out (Below.mono (B := W4.heap.size) (by with_reducible (repeat (first | exact Below.refl W4.heap.size W4 | refine Below.drew ?_ | refine Below.alloc ?_ (by first | exact Nat.le_refl _ | omega | (simp; done) | (simp; omega)) _))) hsz4))).mono ?_; rintro e w5 ⟨v5, H5, hc5, rfl, ho5, hr5, hb5⟩; obtain ⟨V5, c5, rfl⟩ := own_sl ho5; have hb5' : Hid (Below W4.heap.size W4 w5) := Lib.hid (Below.trans (by with_reducible (repeat (first | exact Below.refl W4.heap.size W4 | refine Below.drew ?_ | refine Below.alloc ?_ (by first | exact Nat.le_refl _ | omega | (simp; done) | (simp; omega)) _))) (hb5.mono (B' := W4.heap.size) (by first | exact Nat.le_refl _ | (simp; done) | (simp; omega)))); have x5 := (hb5'.out.cell (p := ⟨w3.heap.size, 3, none⟩) s4).trans x4; have y5 := (hb5'.out.cell (p := ⟨g3, 3, none⟩) hlt4).trans y4; have ho5' := Lib.hid (Joins.ownsRow_le (base' := W4.heap.size) ho5 (by first | exact Nat.le_refl _ | (simp; done) | (simp; omega))); have hr5' := Lib.hid hr5; have hz5 := hb5'.out.size; have t5 : w3.heap.size < w5.heap.size := (by omega); have t5' : g3 < w5.heap.size := (by omega); have rn5 : ¬ w5.heap.size = w3.heap.size := (by omega); have rn6 : ¬ w5.heap.size + 1 = w3.heap.size := (by omega); have rn7 : ¬ w5.heap.size = g3 := (by omega); have rn8 : ¬ w5.heap.size + 1 = g3 := (by omega); have n5 : ¬ w3.heap.size = w5.heap.size := (by omega); have n6 : ¬ w3.heap.size = w5.heap.size + 1 := (by omega); have n7 : ¬ g3 = w5.heap.size := (by omega); have n8 : ¬ g3 = w5.heap.size + 1 := (by omega); (try (refine (fun (z1 : Hid (Zero3 (W4.heap.size) w5)) => ?_) (Lib.hid (Zero3.next ?_ hb5)); rotate_left 1; (focus ((with_reducible (repeat (first | (refine zero3_new _ _ ?_; first | (exact rfl) | (simp; done)) | refine Zero3.next ?_ ((Below.refl _ _).alloc (Nat.le_refl _) _) | refine Zero3.next ?_ (Below.drew (Below.refl _ _))))); done)); obtain ⟨⟨_, _, _⟩, _, _, _⟩ := z1.out.cells; have lz1 := z1.out.lt)); (try (refine (fun (z2 : Hid (Zero3 (W4.heap.size + 1) w5)) => ?_) (Lib.hid (Zero3.next ?_ hb5)); rotate_left 1; (focus ((with_reducible (repeat (first | (refine zero3_new _ _ ?_; first | (exact rfl) | (simp; done)) | refine Zero3.next ?_ ((Below.refl _ _).alloc (Nat.le_refl _) _) | refine Zero3.next ?_ (Below.drew (Below.refl _ _))))); done)); obtain ⟨⟨_, _, _⟩, _, _, _⟩ := z2.out.cells; have lz2 := z2.out.lt)); have hb5'' := Lib.hid hb5; clear hb5 ho5 hr5) | (go_at_call 7; with_reducible refine (hrdt.out _ (by with_reducible (repeat (first | exact hb5'.out | refine Below.drew ?_ | refine Below.alloc ?_ (by first | exact Nat.le_refl _ | omega | (simp; done) | (simp; omega)) _)))).mono ?_; rintro e w6 ⟨v6, H6, hc6, rfl, ho6, hr6, hb6⟩; obtain ⟨V6, c6, rfl⟩ := own_sl ho6; have hb6' : Hid (Below W4.heap.size W4 w6) := Lib.hid (Below.trans (by with_reducible (repeat (first | exact hb5'.out | refine Below.drew ?_ | refine Below.alloc ?_ (by first | exact Nat.le_refl _ | omega | (simp; done) | (simp; omega)) _))) (hb6.mono (B' := W4.heap.size) (by first | exact Nat.le_refl _ | omega | (simp; done) | (simp; omega)))); have x6 := (hb6'.out.cell (p := ⟨w3.heap.size, 3, none⟩) s4).trans x4; have y6 := (hb6'.out.cell (p := ⟨g3, 3, none⟩) hlt4).trans y4; have ho6' := Lib.hid (Joins.ownsRow_le (base' := W4.heap.size) ho6 (by first | omega | (simp; done) | (simp; omega))); have hr6' := Lib.hid hr6; have hz6 := hb6'.out.size; have t6 : w3.heap.size < w6.heap.size := (by omega); have t6' : g3 < w6.heap.size := (by omega); have rm5 : ¬ w6.heap.size = w3.heap.size := (by omega); have rm6 : ¬ w6.heap.size + 1 = w3.heap.size := (by omega); have rm7 : ¬ w6.heap.size = g3 := (by omega); have rm8 : ¬ w6.heap.size + 1 = g3 := (by omega); have m5 : ¬ w3.heap.size = w6.heap.size := (by omega); have m6 : ¬ w3.heap.size = w6.heap.size + 1 := (by omega); have m7 : ¬ g3 = w6.heap.size := (by omega); have m8 : ¬ g3 = w6.heap.size + 1 := (by omega); (try (refine (fun (y0 : Hid (Zero3 (W4.heap.size) w6)) => ?_) (Lib.hid (Zero3.next ?_ hb6)); rotate_left 1; (focus ((with_reducible (repeat (first | (refine zero3_new _ _ ?_; first | (exact rfl) | (simp; done)) | exact z1.out | exact z2.out | refine Zero3.next ?_ ((Below.refl _ _).alloc (Nat.le_refl _) _) | refine Zero3.next ?_ (Below.drew (Below.refl _ _))))); done)); obtain ⟨⟨_, _, _⟩, _, _, _⟩ := y0.out.cells; have ly0 := y0.out.lt)); (try (refine (fun (y1 : Hid (Zero3 (W4.heap.size + 1) w6)) => ?_) (Lib.hid (Zero3.next ?_ hb6)); rotate_left 1; (focus ((with_reducible (repeat (first | (refine zero3_new _ _ ?_; first | (exact rfl) | (simp; done)) | exact z1.out | exact z2.out | refine Zero3.next ?_ ((Below.refl _ _).alloc (Nat.le_refl _) _) | refine Zero3.next ?_ (Below.drew (Below.refl _ _))))); done)); obtain ⟨⟨_, _, _⟩, _, _, _⟩ := y1.out.cells; have ly1 := y1.out.lt)); (try (refine (fun (y2 : Hid (Zero3 (w5.heap.size) w6)) => ?_) (Lib.hid (Zero3.next ?_ hb6)); rotate_left 1; (focus ((with_reducible (repeat (first | (refine zero3_new _ _ ?_; first | (exact rfl) | (simp; done)) | exact z1.out | exact z2.out | refine Zero3.next ?_ ((Below.refl _ _).alloc (Nat.le_refl _) _) | refine Zero3.next ?_ (Below.drew (Below.refl _ _))))); done)); obtain ⟨⟨_, _, _⟩, _, _, _⟩ := y2.out.cells; have ly2 := y2.out.lt)); (try (refine (fun (y3 : Hid (Zero3 (w5.heap.size + 1) w6)) => ?_) (Lib.hid (Zero3.next ?_ hb6)); rotate_left 1; (focus ((with_reducible (repeat (first | (refine zero3_new _ _ ?_; first | (exact rfl) | (simp; done)) | exact z1.out | exact z2.out | refine Zero3.next ?_ ((Below.refl _ _).alloc (Nat.le_refl _) _) | refine Zero3.next ?_ (Below.drew (Below.refl _ _))))); done)); obtain ⟨⟨_, _, _⟩, _, _, _⟩ := y3.out.cells; have ly3 := y3.out.lt)); obtain ⟨⟨_, _, _⟩, _, _, _⟩ := (zero3_two w6 (.cells #[.slice none 0 0, .slice none 0 0, .bool false] 37)).cells; obtain ⟨⟨_, _, _⟩, _, _, _⟩ := (zero3_two' w6).cells; have hb6'' := Lib.hid hb6; clear hb6 ho6 hr6))
      all_goals (go_wp2_with fail; go_meet)
      all_goals
        (refine ⟨_, _, rfl, rfl, ?_⟩
         have hW64 := hb6'.out.size
         have hb56 : Below w5.heap.size w5 w6 := by
           refine Below.trans ?_ (Below.mono hb6''.out ?_)
           · with_reducible (repeat (first | exact Below.refl w5.heap.size w5 | refine Below.drew ?_ | refine Below.alloc ?_ ?_ _)) <;> first | exact Nat.le_refl _ | (simp; done) | (simp; omega)
           · first | exact Nat.le_refl _ | (simp; done) | (simp; omega)
         have row5 := ownsRow_mem ho5'.out hb56
         have rd5 := hr5'.out.below hb56
         have row6 := ho6'.out
         have rd6 := hr6'.out
         refine ⟨hB4'.out.trans (Below.mono (B := W4.heap.size) ?_ hsz4), ?_, ?_, ?_, ⟨V5, c5, H5, hc5, ?_, ?_, ?_⟩, ⟨V6, c6, H6, hc6, ?_, ?_, ?_⟩⟩
         · with_reducible (repeat (first | exact hb6'.out | refine T3_below ?_ ?_ _ _ _ | refine Below.alloc ?_ ?_ _)) <;> first | omega | (simp; done) | (simp; omega)
         · omega
         · omega
         · omega
         · (with_reducible (first | (refine heap_alloc_at _ _ _ ?_) | (refine T3_same ?_ _ _ _) | (refine (Below.heap_alloc _ _ _ ?_).trans (heap_alloc_at _ _ _ ?_)) | (refine (Below.heap_alloc _ _ _ ?_).trans (T3_same ?_ _ _ _)) | (refine (T3_other _ _ _ _ _ _ ?_).trans (T3_same ?_ _ _ _))); all_goals first | omega | (simp; done) | (simp; omega) | (with_reducible (first | exact y0.out | exact y1.out | exact y2.out | exact y3.out)) | (refine T3_zero ?_ ?_ _ _ _; all_goals first | (with_reducible (first | exact y0.out | exact y1.out | exact y2.out | exact y3.out)) | omega))
         · (with_reducible (repeat (first | exact row5 | refine World.ownsRow.alloc ?_ _ | refine T3_row' _ _ _ ?_ ?_)); all_goals first | (with_reducible (first | exact y0.out | exact y1.out | exact y2.out | exact y3.out)) | (refine T3_zero ?_ ?_ _ _ _; all_goals first | (with_reducible (first | exact y0.out | exact y1.out | exact y2.out | exact y3.out)) | omega) | omega | (simp; done) | (simp; omega))
         · (with_reducible (repeat (first | exact rd5 | refine rd_alloc ?_ _ | refine T3_rd' _ _ _ ?_ ?_)); all_goals first | (with_reducible (first | exact y0.out | exact y1.out | exact y2.out | exact y3.out)) | (refine T3_zero ?_ ?_ _ _ _; all_goals first | (with_reducible (first | exact y0.out | exact y1.out | exact y2.out | exact y3.out)) | omega) | omega | (simp; done) | (simp; omega))
         · (with_reducible (first | (refine heap_alloc_at _ _ _ ?_) | (refine T3_same ?_ _ _ _) | (refine (Below.heap_alloc _ _ _ ?_).trans (heap_alloc_at _ _ _ ?_)) | (refine (Below.heap_alloc _ _ _ ?_).trans (T3_same ?_ _ _ _)) | (refine (T3_other _ _ _ _ _ _ ?_).trans (T3_same ?_ _ _ _))); all_goals first | omega | (simp; done) | (simp; omega) | (with_reducible (first | exact y0.out | exact y1.out | exact y2.out | exact y3.out)) | (refine T3_zero ?_ ?_ _ _ _; all_goals first | (with_reducible (first | exact y0.out | exact y1.out | exact y2.out | exact y3.out)) | omega))
         · (with_reducible (repeat (first | exact row6 | refine World.ownsRow.alloc ?_ _ | refine T3_row' _ _ _ ?_ ?_)); all_goals first | (with_reducible (first | exact y0.out | exact y1.out | exact y2.out | exact y3.out)) | (refine T3_zero ?_ ?_ _ _ _; all_goals first | (with_reducible (first | exact y0.out | exact y1.out | exact y2.out | exact y3.out)) | omega) | omega | (simp; done) | (simp; omega))
         · (with_reducible (repeat (first | exact rd6 | refine rd_alloc ?_ _ | refine T3_rd' _ _ _ ?_ ?_)); all_goals first | (with_reducible (first | exact y0.out | exact y1.out | exact y2.out | exact y3.out)) | (refine T3_zero ?_ ?_ _ _ _; all_goals first | (with_reducible (first | exact y0.out | exact y1.out | exact y2.out | exact y3.out)) | omega) | omega | (simp; done) | (simp; omega)))
    case rest =>
      obtain ⟨B7, B8, rfl, rfl, hTT⟩ := hcut
      obtain ⟨V7, c7, H7, hc7, hb7, hr7, hh7⟩ := hTT.out.t7.out
      obtain ⟨V8, c8, H8, hc8, hb8, hr8, hh8⟩ := hTT.out.t8.out
      obtain ⟨⟨a70, a71, a72⟩, _, _, _⟩ := cells3 hb7
      obtain ⟨⟨a80, a81, a82⟩, _, _, _⟩ := cells3 hb8
      have hst7 := hh7.strA (P := Tryd.prog) 22 9 5 Tryd.underlying22 Tryd.underlying5 Tryd.underlying9
      have hst8 := hh8.strA (P := Tryd.prog) 22 9 5 Tryd.underlying22 Tryd.underlying5 Tryd.underlying9
      have hP1 : (readM (twinM by_ l)).1.length = (readM l).1.length := hP.out.len.symm
      rw [← hP.out.paste] at a82
      rw [← hP.out.held] at hst8 a81
      rw [hP1] at a80 hr8
      have hr7' := Lib.hid hr7
      have hr8' := Lib.hid hr8
      have hpos := Lib.hid fun W c => rPut_len W c
      have hW0 := Lib.hid hTT.out.below
      have hkey := Lib.hid fun i x y h1 h2 => hP.out.key i x y h1 h2
      have hbx : Hid ((readM l).1.length ≤ 800) := by
        have := readM_few l; exact Lib.hid (by omega)
      have hp1 := Lib.hid hP1
      clear hTT hP hP1 hr7 hr8 hh7 hh8 hb7 hb8 hrd0 hrdt x4 y4
      generalize (readM l).1 = KX at *
      generalize (readM (twinM by_ l)).1 = KY at *
      generalize (readM l).2.1 = HX at *
      generalize (readM l).2.2 = PX at *
      go_wp2
      have hs8 : B8 < wc.heap.size := World.block_lt_of_cell? _ _ a80
      have hs8' := Lib.hid hs8
      go_loopw [70] (fun i wr => ∃ k : Nat, i = .int .i64 k ∧ k ≤ KX.length ∧ Hid (Below wc.heap.size wc wr)) (fun i _ => KX.length - (intOf i).toNat)
      case atStart => exact ⟨0, rfl, by omega, Below.refl _ _⟩
      case round =>
        obtain ⟨k, rfl, hk, hB⟩ := hrel
        have hbx' := hbx.out
        by_cases hi : (k : Int) < KX.length
        · have rx := ownsRow_mem hr7'.out hB.out
          have ry := ownsRow_mem hr8'.out hB.out
          obtain ⟨g7, q7, hV7⟩ := Joins.ownsRow_form rx (by omega)
          obtain ⟨rfl, rfl⟩ : V7 = some ⟨g7, 0, none⟩ ∧ c7 = q7 := by injection hV7; exact ⟨by assumption, by assumption⟩
          obtain ⟨g8, q8, hV8⟩ := Joins.ownsRow_form ry (by omega)
          obtain ⟨rfl, rfl⟩ : V8 = some ⟨g8, 0, none⟩ ∧ c8 = q8 := by injection hV8; exact ⟨by assumption, by assumption⟩
          obtain ⟨⟨k1, d1⟩, hx⟩ : ∃ x, KX[k]? = some x := ⟨_, List.getElem?_eq_getElem (by omega)⟩
          obtain ⟨⟨k2, d2⟩, hy⟩ : ∃ y, KY[k]? = some y := ⟨_, List.getElem?_eq_getElem (by have := hp1.out; omega)⟩
          obtain ⟨hkk, hrl⟩ := hkey.out k _ _ hx hy
          have e1 := (rx.cellAt (k * 2) (by omega)).trans (kc_at KX k _ hx).1
          have e2 := (rx.cellAt (k * 2 + 1) (by omega)).trans (kc_at KX k _ hx).2
          have e3 := (ry.cellAt (k * 2) (by omega)).trans (kc_at KY k _ hy).1
          have e4 := (ry.cellAt (k * 2 + 1) (by omega)).trans (kc_at KY k _ hy).2
          simp only at hkk hrl e1 e2 e3 e4
          subst hkk
          have hg7 := World.block_lt_of_cell? _ _ e1
          have hg8 := World.block_lt_of_cell? _ _ e3
          have b80 := (hB.out.cell (p := ⟨B8, 0, none⟩) hs8).trans a80
          have hs8w : B8 < wr.heap.size := by have := hB.out.size; have := hs8'.out; omega
          have hrl' := Lib.hid hrl
          clear hx hy rx ry hrl a70 a71 a72 a80 a81 a82 hst7 hst8
          go_wp2
          have hpos2 := Lib.hid fun c W => hpos.out W c
          clear hpos hkey e1 e2 e3 e4 b80
          have hB5 := Lib.hid (((Below.refl wr.heap.size wr).alloc (Nat.le_refl _) (.cells #[.int .i64 k1, .int .i64 d1] 43)).alloc (by simp) (.cells #[.int .i64 k1, .int .i64 d2] 43))
          have hl5 : wr.heap.size + 1 < ((wr.alloc (.cells #[.int .i64 k1, .int .i64 d1] 43)).alloc (.cells #[.int .i64 k1, .int .i64 d2] 43)).heap.size := by simp
          have hx5 : ((wr.alloc (.cells #[.int .i64 k1, .int .i64 d1] 43)).alloc (.cells #[.int .i64 k1, .int .i64 d2] 43)).heap[wr.heap.size]? = some (.cells #[.int .i64 k1, .int .i64 d1] 43 (0, 0)) := (Below.heap_alloc _ _ _ (by simp)).trans (heap_alloc_new wr _)
          have hy5 : ((wr.alloc (.cells #[.int .i64 k1, .int .i64 d1] 43)).alloc (.cells #[.int .i64 k1, .int .i64 d2] 43)).heap[wr.heap.size + 1]? = some (.cells #[.int .i64 k1, .int .i64 d2] 43 (0, 0)) := heap_alloc_at _ _ _ (by simp)
          generalize (wr.alloc (.cells #[.int .i64 k1, .int .i64 d1] 43)).alloc (.cells #[.int .i64 k1, .int .i64 d2] 43) = W5 at *
          have c50 : W5.cell? ⟨wr.heap.size, 0, none⟩ = some (.int .i64 k1) := by simp [World.cell?, hx5]
          have c51 : W5.cell? ⟨wr.heap.size, 1, none⟩ = some (.int .i64 d1) := by simp [World.cell?, hx5]
          have c52 : W5.cell? ⟨wr.heap.size + 1, 0, none⟩ = some (.int .i64 k1) := by simp [World.cell?, hy5]
          have c53 : W5.cell? ⟨wr.heap.size + 1, 1, none⟩ = some (.int .i64 d2) := by simp [World.cell?, hy5]
          clear hx5 hy5
          have hpA : Hid (∀ W, Below W5.heap.size W5 W → Calls Tryd.prog 8 #[.int .i64 d1] W fun e w' => ∃ A k, e = .returned (.slice A (rlen d2) k) ∧ Below W5.heap.size W5 w') := Lib.hid fun W hW => (hpos2.out d1 W).mono fun e w' ⟨A, k, h1, h2⟩ => ⟨A, k, hrl'.out ▸ h1, hW.trans (h2.mono hW.size)⟩
          have hpB : Hid (∀ W, Below W5.heap.size W5 W → Calls Tryd.prog 8 #[.int .i64 d2] W fun e w' => ∃ A k, e = .returned (.slice A (rlen d2) k) ∧ Below W5.heap.size W5 w') := Lib.hid fun W hW => (hpos2.out d2 W).mono fun e w' ⟨A, k, h1, h2⟩ => ⟨A, k, h1, hW.trans (h2.mono hW.size)⟩
          clear hrl' hpos2
          go_region_held3 (fun w' => w'.cell? ⟨wr.heap.size, 0, none⟩ = some (.int .i64 k1) ∧ w'.cell? ⟨wr.heap.size, 1, none⟩ = some (.int .i64 d1) ∧ w'.cell? ⟨wr.heap.size + 1, 0, none⟩ = some (.int .i64 k1) ∧ w'.cell? ⟨wr.heap.size + 1, 1, none⟩ = some (.int .i64 d2)) (go_keep) (first | (go_at_call 8; with_reducible refine (hpA.out _ (by with_reducible (repeat (first | exact hb6'.out | exact Below.refl W5.heap.size W5 | refine Below.drew ?_ | refine below_drewN ?_ _)))).mono ?_; rintro e w6 ⟨A6, k6, rfl, hb6⟩; have hb6' := Lib.hid hb6; clear hb6; have c60 := (hb6'.out.cell (p := ⟨wr.heap.size, 0, none⟩) (by show wr.heap.size < W5.heap.size; omega)).trans c50; have c61 := (hb6'.out.cell (p := ⟨wr.heap.size, 1, none⟩) (by show wr.heap.size < W5.heap.size; omega)).trans c51; have c62 := (hb6'.out.cell (p := ⟨wr.heap.size + 1, 0, none⟩) (by show wr.heap.size + 1 < W5.heap.size; omega)).trans c52; have c63 := (hb6'.out.cell (p := ⟨wr.heap.size + 1, 1, none⟩) (by show wr.heap.size + 1 < W5.heap.size; omega)).trans c53) | (go_at_call 8; with_reducible refine (hpB.out _ (by with_reducible (repeat (first | exact hb6'.out | exact Below.refl W5.heap.size W5 | refine Below.drew ?_ | refine below_drewN ?_ _)))).mono ?_; rintro e w6 ⟨A6, k6, rfl, hb6⟩; have hb6' := Lib.hid hb6; clear hb6; have c60 := (hb6'.out.cell (p := ⟨wr.heap.size, 0, none⟩) (by show wr.heap.size < W5.heap.size; omega)).trans c50; have c61 := (hb6'.out.cell (p := ⟨wr.heap.size, 1, none⟩) (by show wr.heap.size < W5.heap.size; omega)).trans c51; have c62 := (hb6'.out.cell (p := ⟨wr.heap.size + 1, 0, none⟩) (by show wr.heap.size + 1 < W5.heap.size; omega)).trans c52; have c63 := (hb6'.out.cell (p := ⟨wr.heap.size + 1, 1, none⟩) (by show wr.heap.size + 1 < W5.heap.size; omega)).trans c53))
          all_goals go_wp2
          all_goals (
            go_roundw
            case rel => exact ⟨k + 1, by go_num, by omega, hB.out.trans ((hB5.out.trans (hb6'.out.mono (by omega))).mono hB.out.size)⟩
            case measure => simp [intOf]; omega)
        · have hk' : k = KX.length := by omega
          go_wp2
          go_ret
          exact ⟨rfl, hW0.out.trans (hB.out.mono hW0.out.size)⟩
end Go.Proofs.YtnogcpjfgnpbbaaDoor
