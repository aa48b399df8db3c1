/- The contract of twin.Plan at a plan of one item. Conditions: sizes within what a machine holds; the pinned tables of unicode/utf8. -/
import Derived.Test.YtnogcpjfgnpbbaaDoorTwinC
import Derived.Deep.RegionHeld3
import Derived.Deep.DrawnRows
import Derived.Deep.CutRange
set_option linter.unusedSimpArgs false
set_option linter.unusedVariables false
namespace Go.Proofs.YtnogcpjfgnpbbaaDoor
open Go.RowKit
attribute [local go_sem] Oper.semAt_some
attribute [local go_sem] Go.wp_at_zero Go.wp_at_succ

theorem intsClone_nil (w : World) : Calls Tryd.prog 17 #[.slice none 0 0] w fun e w' => e = .returned (.slice none 0 0) ∧ w = w' := by
  have hq := fun (w : World) => Lib.run_eql_slice_nil (P := Tryd.prog) w 28 3 none 0 0 0 0 Tryd.underlying28
  go_enter Tryd.func17, Tryd.ntmps17
  go_wp2
  go_ret
  exact ⟨rfl, rfl⟩
/-- what Plan's clones leave: the plan's cells as they lay -/
def CloneRes (x : It) (w : World) (e : Ending) (w' : World) : Prop := ∃ g c, e = .returned (.slice (some ⟨g, 0, none⟩) 1 c) ∧ w'.ownsRow w.heap.size 41 4 (.slice (some ⟨g, 0, none⟩) 1 c) 1 (ic [x]) ∧ Below w.heap.size w w'
theorem itemsClone1 (w : World) (b off k : Nat) (x : It) (h : Its w (some ⟨b, off, none⟩) 1 k [x]) :
    Calls Tryd.prog 16 #[.slice (some ⟨b, off, none⟩) 1 k] w fun e w' => CloneRes x w e w' := by
  refine (itemsClone_any w _ 1 k [x] h).mono ?_
  rintro e w' ⟨v, rfl, ho, hn, hb⟩
  obtain ⟨g, c, rfl⟩ := Joins.ownsRow_form ho (by omega)
  exact ⟨g, c, rfl, ho, hb⟩
def twinM (by_ : Int) (l : List UInt8) : List UInt8 := twPut by_ l (secretM l)
def PlanRes (l : List UInt8) (w : World) (e : Ending) (w' : World) : Prop :=
  ∃ b ic A c, e = .returned (.tuple #[plan1 (some ⟨b, 0, none⟩) ic, .int .i64 0]) ∧ 1 ≤ ic ∧ w'.cell? ⟨b, 3, none⟩ = some (.slice A l.length c) ∧ Rd w' A l.length c l ∧ Below w.heap.size w w'
/-- Plan's own three blocks: the plan, how far, the answer -/
structure PM (w : World) (A : Option Addr) (ic : Nat) (by_ : Int) (W : World) : Prop where
  below : Below w.heap.size w W
  size : w.heap.size + 3 ≤ W.heap.size
  p : W.heap[w.heap.size]? = some (.cells #[.int .u32 0, .int .u8 0, .int .u8 0, .slice A 1 ic, .slice none 0 0, .slice none 0 0, .slice none 0 0] 30 (0, 0))
  y : W.heap[w.heap.size + 1]? = some (.cells #[.int .i64 by_] 3 (0, 0))
  q : W.heap[w.heap.size + 2]? = some (.cells #[.int .u32 0, .int .u8 0, .int .u8 0, .slice none 0 0, .slice none 0 0, .slice none 0 0, .slice none 0 0] 30 (0, 0))
theorem PM.kept {w : World} {A : Option Addr} {ic : Nat} {by_ : Int} {W W' : World} (h : PM w A ic by_ W) (hb : Below (w.heap.size + 3) W W') : PM w A ic by_ W' :=
  ⟨h.below.trans (hb.mono (by omega)), Nat.le_trans h.size hb.size, (hb.block _ (by omega)).trans h.p, (hb.block _ (by omega)).trans h.y, (hb.block _ (by omega)).trans h.q⟩
theorem PM.next {w : World} {A : Option Addr} {ic : Nat} {by_ : Int} {W W' : World} (h : PM w A ic by_ W) (hb : Below W.heap.size W W') : PM w A ic by_ W' := h.kept (hb.mono h.size)

theorem PM.drew {w : World} {A : Option Addr} {ic : Nat} {by_ : Int} {W : World} (h : PM w A ic by_ W) : PM w A ic by_ W.drew := h.kept ((Below.refl _ _).drew)
theorem PM.drewN {w : World} {A : Option Addr} {ic : Nat} {by_ : Int} {W : World} (h : PM w A ic by_ W) (n : Nat) : PM w A ic by_ (W.drewN n) := h.kept (below_drewN (Below.refl _ _) n)
theorem PM.alloc {w : World} {A : Option Addr} {ic : Nat} {by_ : Int} {W : World} (h : PM w A ic by_ W) (o : Obj) : PM w A ic by_ (W.alloc o) := h.kept ((Below.refl _ _).alloc h.size o)

/-- what Plan leaves -/
structure PlanFin (w : World) (A : Option Addr) (ic : Nat) (by_ : Int) (QB gI cI : Nat) (n : Nat) (bs : List UInt8) (D : Nat) (wr : World) : Prop where
  dk : wr.heap[D]? = some (.deferred (some []))
  pm : PM w A ic by_ wr
  q : wr.heap[QB]? = some (.cells #[.int .u32 0, .int .u8 0, .int .u8 0, .slice (some ⟨gI, 0, none⟩) 1 cI, .slice none 0 0, .slice none 0 0, .slice none 0 0] 30 (0, 0))
  gb : w.heap.size + 3 ≤ gI
  cb : 1 ≤ cI
  out : ∃ A' c', wr.cell? ⟨gI, 3, none⟩ = some (.slice A' n c') ∧ wr.ownsRow (w.heap.size + 3) 5 1 (.slice A' n c') n (bc bs)
/-- what the clones leave: the new plan and its items; W: the world ahead of the clones -/
structure PlanCut (W : World) (x : It) (QB gI cI : Nat) (wr : World) : Prop where
  below : Below W.heap.size W wr
  q : wr.heap[QB]? = some (.cells #[.int .u32 0, .int .u8 0, .int .u8 0, .slice (some ⟨gI, 0, none⟩) 1 cI, .slice none 0 0, .slice none 0 0, .slice none 0 0] 30 (0, 0))
  qb : W.heap.size ≤ QB
  items : wr.ownsRow W.heap.size 41 4 (.slice (some ⟨gI, 0, none⟩) 1 cI) 1 (ic [x])
theorem store7 {w : World} {b : Nat} {a0 a1 a2 a3 a4 a5 a6 : Value} {T : TypeId} (h : w.heap[b]? = some (.cells #[a0, a1, a2, a3, a4, a5, a6] T (0, 0))) (b0 b1 b2 b3 b4 b5 b6 : Value) :
    (((((((w.setCell ⟨b, 0, none⟩ b0).setCell ⟨b, 1, none⟩ b1).setCell ⟨b, 2, none⟩ b2).setCell ⟨b, 3, none⟩ b3).setCell ⟨b, 4, none⟩ b4).setCell ⟨b, 5, none⟩ b5).setCell ⟨b, 6, none⟩ b6).heap[b]? = some (.cells #[b0, b1, b2, b3, b4, b5, b6] T (0, 0)) :=
  by
  have h0 := heap_setCell_same _ b 6 _ _ b6 (heap_setCell_same _ b 5 _ _ b5 (heap_setCell_same _ b 4 _ _ b4 (heap_setCell_same _ b 3 _ _ b3 (heap_setCell_same _ b 2 _ _ b2 (heap_setCell_same _ b 1 _ _ b1 (heap_setCell_same _ b 0 _ _ b0 h))))))
  simpa using h0

set_option maxRecDepth 100000 in
set_option maxHeartbeats 4000000 in
theorem plan_any (w : World) (b off ic : Nat) (A : Option Addr) (n c : Nat) (l : List UInt8) (by_ : Int) (h : Its w (some ⟨b, off, none⟩) 1 ic [itm A n c l]) (hn : n ≤ 1000000) (hT : Tabs w) (hby : -9223372036854775808 ≤ by_ ∧ by_ ≤ 9223372036854775807) :
    Calls Tryd.prog 5 #[plan1 (some ⟨b, off, none⟩) ic, .int .i64 by_] w fun e w' => PlanRes (twinM by_ l) w e w' := by
  have hln : l.length = n := (h.cell b off rfl 0 _ rfl).2.2.2.2.len
  subst hln
  have hck := Lib.hid fun W hW => worldCheck_any W 0 0 0 (some ⟨b, off, none⟩) 1 ic none none none 0 0 0 0 0 0 [itm A l.length c l] (h.below hW)
  have hall := Lib.hid fun W hW => all1_any W b off ic A l.length c l (h.below hW) hn
  have hord := Lib.hid fun W => order1_any W (some ⟨b, off, none⟩) ic
  have hsec := Lib.hid fun W A n c => secret_any W A n c
  have hits := Lib.hid h
  unfold plan1 at hall hord ⊢
  have hck0 : wCheck [itm A l.length c l] = 0 := by simp [wCheck, badItems, badItem, itm]
  rw [hck0] at hck
  have hn' := Lib.hid hn
  clear h hn hck0
  refine (callsIn_wide (n := 3)).1 ?_
  refine callsIn_of_wp_marks Tryd.func5 rfl trivial ?_ rfl
  simp only [Tryd.ntmps5, List.size_toArray, List.length_cons, List.length_nil, Nat.reduceAdd, Nat.reduceSub, Array.replicate_succ, Array.replicate_zero, List.push_toArray, List.append_toArray, List.nil_append, List.cons_append]
  gi_wp2_with (first | (refine ⟨trivial, ?_⟩; gi_at_call 10; refine (callsIn_wide.2 (hck.out _ (((Below.refl _ w).alloc (Nat.le_refl _) _).alloc (by simp) _ |>.alloc (by simp; omega) _))).mono ?_; rintro e w1 ⟨rfl, hb1⟩; have hs0 : w.heap.size + 3 ≤ w1.heap.size := (by have := hb1.size; simp at this; omega); have hM1 : Hid (PM w (some ⟨b, off, none⟩) ic by_ w1) := Lib.hid ⟨(((Below.refl _ w).alloc (Nat.le_refl _) _).alloc (by simp) _ |>.alloc (by simp; omega) _).trans (hb1.mono (by simp; omega)), hs0, (hb1.block w.heap.size (by simp; omega)).trans ((Below.heap_alloc _ _ _ (by simp; omega)).trans ((Below.heap_alloc _ _ _ (by simp)).trans (heap_alloc_new w _))), (hb1.block (w.heap.size + 1) (by simp)).trans ((Below.heap_alloc _ _ _ (by simp)).trans (heap_alloc_at _ _ _ (by simp))), (hb1.block (w.heap.size + 2) (by simp)).trans (heap_alloc_at _ _ _ (by simp))⟩; obtain ⟨⟨c0, c1, c2, c3, c4, c5, c6⟩, _⟩ := cells7 hM1.out.p; clear hb1) | (refine ⟨trivial, ?_⟩; gi_at_call 11; refine (callsIn_wide.2 (hall.out _ hM1.out.below)).mono ?_; rintro e w2 ⟨A2, cp2, rfl, ho2, hb2⟩; have ho2' := Lib.hid ho2; have hM2 := Lib.hid (hM1.out.next hb2); have hs2 := hb2.size; obtain ⟨A2', cp2', hsl, hR2⟩ := owns_rd ho2; obtain ⟨rfl, rfl⟩ : A2 = A2' ∧ cp2 = cp2' := (by injection hsl; exact ⟨by assumption, by assumption⟩); have hR2' := Lib.hid hR2; clear hb2 ho2 hsl hR2) | (refine ⟨trivial, ?_⟩; gi_at_call 13; refine (callsIn_wide.2 (bytesClone_any _ A2 l.length cp2 l (hR2'.out.below ((Below.refl _ _).alloc (Nat.le_refl _) _)) (by have := hn'.out; omega))).mono ?_; rintro e w3 ⟨v3, rfl, ho3, _, hb3⟩; have hL3 := Lib.hid ((hb3.block w2.heap.size (by simp)).trans (heap_alloc_new w2 _)); have hB23 := Lib.hid (((Below.refl _ w2).alloc (Nat.le_refl _) _).trans (hb3.mono (by simp))); have hs3 := hb3.size; obtain ⟨A3, cp3, rfl⟩ := own_sl ho3; have ho3' := Lib.hid ho3; clear hb3 ho3) | (refine ⟨trivial, ?_⟩; gi_at_call 12; refine (callsIn_wide.2 (hsec.out _ _ _ _)).mono ?_; rintro e w4 ⟨rfl, rfl⟩))
  have hA3 : ∀ ad, A3 = some ad → w2.heap.size + 1 ≤ ad.block ∧ ad.block < w3.heap.size := fun ad e => by
    have h := ho3'.out.lt ad.block (by rw [e]; rfl)
    simpa using h
  obtain ⟨A3', cp3', hsl3, hR3⟩ := owns_rd ho3'.out
  obtain ⟨rfl, rfl⟩ : A3 = A3' ∧ cp3 = cp3' := by injection hsl3; exact ⟨by assumption, by assumption⟩
  obtain ⟨g, hg1, hg2, hg3⟩ : ∃ g, g < w3.heap.size + 1 ∧ w2.heap.size < g ∧ ∀ ad, A3 = some ad → ad.block = g := by
    simp at hs3
    cases A3 with
    | none => exact ⟨w3.heap.size, by omega, by omega, fun _ e => nomatch e⟩
    | some ad => have := hA3 ad rfl; exact ⟨ad.block, by omega, by omega, fun _ e => by cases e; rfl⟩
  simp only [World.size_alloc] at hs3
  have hA2 := fun k e => ho2'.out.lt k e
  have hp : ∀ k, own3 w.heap.size g w3.heap.size k → k < w3.heap.size + 1 ∧ k ≠ w2.heap.size ∧ (Value.slice A2 l.length cp2).ownBlock ≠ some k := by
    rintro k (h | rfl | rfl) <;> refine ⟨by omega, by omega, fun e => ?_⟩ <;> (have := hA2 _ e; omega)
  have hM3 := hM2.out.next hB23.out
  have hM4 := hM3.next ((Below.refl _ w3).alloc (Nat.le_refl _) (.cells #[.slice A3 l.length cp3] 22))
  have hrow3 := ownsRow_mem ho2'.out hB23.out
  refine wpIn_rangeFunc_ownG rfl (by omega) (gf := 23) (lb := #[.pointer (some ⟨w3.heap.size, 0, none⟩)]) rfl trivial (enters_of Tryd.func23 (by kernel_rfl) rfl)
    (secret_stops (3 - 1) (by omega) w3.heap.size cp3 w.heap.size g A3 l hn'.out _ (by simpa using hg1) (by have := hM3.size; simp; omega) (heap_alloc_at _ _ _ rfl) (fun W' hW' => hT.below (hM4.below.trans hW')) (hR3.below ((Below.refl _ _).alloc (Nat.le_refl _) _)) hg3)
    KeepP.trans (fun W l o o' hl h _ _ => KeepP.putObj (m := w3.heap.size + 1) (fun k hk => (hp k hk).1) W l o o' (by simpa using hl) h) (Below.refl _ _) (fun _ => rfl)
    (fun (pre : List (Sec l.length)) W => ((PM w (some ⟨b, off, none⟩) ic by_ W ∧ w3.heap.size + 1 ≤ W.heap.size) ∧ Boxed W w2.heap.size 22 (.slice A2 l.length cp2)) ∧ W.ownsRow w1.heap.size 5 1 (.slice A2 l.length cp2) l.length (bc (twPut by_ l (vals pre))))
    (fun _ _ _ => False)
    (OwnFrom.and (OwnFrom.and (fun s X Y row hs hg hr => ⟨hs.1.kept ((Below.refl _ _).grown hg hs.1.size (fun k e => by have := (hr k e).1; have := hM3.size; simp at *; omega)), Nat.le_trans hs.2 hg.size⟩) (fun s X Y row hs hg hr => Boxed.kept hs hg (fun e => by have := (hr _ e.symm).1; simp at this; omega))) (fun s X Y row hs hg hr => hs.kept hg (by
      cases hob : (Value.slice A2 l.length cp2).ownBlock with
      | none => exact Or.inl rfl
      | some k => exact Or.inr (fun e => by have := (hr k e.symm).1; have := hA2 k hob; simp at *; omega))))
    (fun _ _ _ _ _ hs _ _ => hs)
    ⟨⟨⟨hM4, by simp⟩, Boxed.alloc (W := w3) hL3.out _⟩, hrow3.alloc _⟩
    (fun x => { tmps := #[.agg #[.int .u32 0, .int .u8 0, .int .u8 0, .slice (some ⟨b, off, none⟩) 1 ic, .slice none 0 0, .slice none 0 0, .slice none 0 0], .int .i64 by_, .pointer (some ⟨w.heap.size, 0, none⟩), .pointer (some ⟨w.heap.size + 1, 0, none⟩), .pointer (some ⟨w.heap.size + 1 + 1, 0, none⟩), .int .i64 0, .int .i64 0, .pointer (some ⟨w2.heap.size, 0, none⟩), .int .i64 (x.1.1 : Nat), .int .i64 (x.1.2 : Nat), undef, undef, undef, undef, undef, undef, undef, undef, .agg #[.int .u32 0, .int .u8 0, .int .u8 0, .slice (some ⟨b, off, none⟩) 1 ic, .slice none 0 0, .slice none 0 0, .slice none 0 0], .int .i64 0, .int .i64 0, .bool false, undef, undef, .agg #[.int .u32 0, .int .u8 0, .int .u8 0, .slice (some ⟨b, off, none⟩) 1 ic, .slice none 0 0, .slice none 0 0, .slice none 0 0], .slice A2 l.length cp2, .slice A2 l.length cp2, .slice A3 l.length cp3, .func (.func 23) #[] #[.pointer (some ⟨w3.heap.size, 0, none⟩)], .int .i64 (x.1.1 : Nat), .int .i64 (x.1.2 : Nat), undef, undef, undef, undef, undef, undef, undef, undef, undef, undef, undef, undef, undef, undef, undef, undef, undef, undef, undef, undef, undef, undef, undef, undef, undef, undef, undef, undef, undef, undef, undef, undef, undef, undef, undef, undef, undef, undef, undef, undef, undef, undef, undef, undef, undef, undef, undef, undef, undef, undef, undef, undef, undef, undef, undef, undef, undef, undef, undef], defers := [] }) ?assign ?body ?done ?stop
  case assign =>
    intro l x W K hK
    gi_wp2
    exact hK
  case body =>
    rintro lp pre x W ⟨⟨⟨hM, hWs⟩, hL⟩, hrow⟩ hlt
    obtain ⟨⟨i, ch⟩, hx1, hx2⟩ := x
    obtain ⟨g2, cq, hA⟩ := Joins.ownsRow_form hrow (by simp only at hx2; omega)
    obtain ⟨rfl, rfl⟩ : A2 = some ⟨g2, 0, none⟩ ∧ cp2 = cq := by injection hA; exact ⟨by assumption, by assumption⟩
    have hg2b := hA2 g2 rfl
    have hle2 := hR2'.out.le; have hbig2 := hR2'.out.big
    have hyc : W.cell? ⟨w.heap.size + 1, 0, none⟩ = some (.int .i64 by_) := (cell_of_row _ _ 0 _ _ _ hM.y).trans rfl
    have hlc := hL.cell
    have hi1 : (i : Int) ≤ l.length := by simp only at hx2; omega
    have hi2 : ¬ cp2 = i := by simp only at hx2; omega
    simp only at hx1 hx2
    have hfine := Lib.hid (turn_fine ch by_ hx1)
    have hturn := Lib.hid fun W => turn_any W ch by_ hx1 hby
    have hpos := ub_pos _ hfine.out
    have hcells := Lib.hid (ub_cells _ hfine.out)
    have hput := Lib.hid fun W => utfPut_ok W _ hfine.out
    have hvs : ∀ h, bc (twPut by_ l (vals (pre ++ [⟨(i, ch), h⟩]))) = bc (putAt (twPut by_ l (vals pre)) i (ub (turnM ch by_))) := fun h => by rw [vals_snoc, twPut_snoc]
    obtain ⟨_, hiu, _, hszu, _⟩ := info_parts info_u8
    have hsz1 : (Tryd.prog.info? 5).map (·.size) = some 1 := by rw [hiu]; simp [hszu]
    generalize turnM ch by_ = d at *
    have hMl := Lib.hid hM; have hLl := Lib.hid hL; have hrowl := Lib.hid hrow; have hM3l := hM3.size
    clear hM hL hrow hiu hszu hA hT
    gi_wp2_with (first | (refine ⟨trivial, ?_⟩; gi_at_call 14; refine (CallsIn.inRound lp (callsIn_wide.2 (hturn.out _))).mono ?_; rintro e w5 ⟨rfl, hb5⟩) | (refine ⟨trivial, ?_⟩; gi_at_call 15; refine (CallsIn.inRound lp (callsIn_wide.2 (hput.out _))).mono ?_; rintro e w6 ⟨v6, rfl, ho6, hb6⟩; rw [hcells.out, bc_len] at ho6; obtain ⟨gx, cx, rfl⟩ := Joins.ownsRow_form ho6 hpos; have hb56 := hb5.trans (hb6.mono hb5.size); have hlc6 := (hb56.cell (p := ⟨w2.heap.size, 0, none⟩) (by show w2.heap.size < W.heap.size; omega)).trans hlc; have hrow6 := Lib.hid (ownsRow_mem hrowl.out hb56); have hx6 := Lib.hid (owns_rd' ho6).news; have hbb := Lib.hid hb56; clear hb5 hb6 hb56 ho6) | (refine wpListIn_copy_row (by rfl) _ _ 22 22 (by rfl) 5 Tryd.underlying22 hsz1 w1.heap.size g2 l.length cp2 i (cp2 - i) ⟨gx, 0, none⟩ (ub d).length cx (twPut by_ l (vals pre)) (ub d) (by rfl) (by rfl) hrow6.out (by omega) rfl hx6.out ?_; intro w7 ho7 hg7))
    have hsz6 := hbb.out.size
    have hk7 : ∀ k, k < W.heap.size → k ≠ g2 → w7.heap[k]? = W.heap[k]? := fun k hk hne => (hg7.block k (by omega) (fun e => hne (by injection e))).trans (hbb.out.block k hk)
    have hsz7 := hg7.size
    refine ⟨⟨by omega, fun k o hB hk ho => ?_⟩, ⟨hg7.os.trans hbb.out.os, hg7.tape.trans hbb.out.tape, hg7.output.trans hbb.out.output, by omega, fun k hk => ?_⟩, ⟨⟨⟨?_, by omega⟩, ?_⟩, ?_⟩⟩
    · have := (Array.getElem?_eq_some_iff.1 hk).1
      exact (hk7 k this (by simp at hB; omega)).trans hk
    · have h1 := hp k hk
      exact hk7 k (by omega) (fun e => h1.2.2 (by rw [e]; rfl))
    · exact hMl.out.kept (((hbb.out.mono (by omega))).grown hg7 (by omega) (fun k e => by cases e; omega))
    · exact (hk7 w2.heap.size (by omega) (by omega)).trans hLl.out
    · rw [hvs]; exact ho7
  case done =>
    rintro D ys W hD hys ⟨⟨⟨hM, hWs⟩, hL⟩, hrow⟩ hK
    have hl := hL.cell
    obtain ⟨⟨c0, c1, c2, c3, c4, c5, c6⟩, _⟩ := cells7 hM.p
    gi_wp2
    have hnc := Lib.hid intsClone_nil
    have hit := Lib.hid fun W' hW' => itemsClone1 W' b off ic _ (hits.out.below hW')
    refine wpIn_wide.2 ?_
    have hPM := Lib.hid hM
    have hPL := Lib.hid hL
    have hRW := Lib.hid hrow
    have hDK := Lib.hid hK
    have hPMs := hM.size
    have hlt : w.heap.size < W.heap.size := by omega
    have hne1 : ¬ w.heap.size = W.heap.size := by omega
    have hne2 : ¬ W.heap.size = w.heap.size := by omega
    have hits0 : Hid (1 ≤ ic) := Lib.hid hits.out.le
    have hD3 : Hid (w.cell? ⟨b, off + 3, none⟩ = some (.slice A l.length c) ∧ b < w.heap.size) := Lib.hid (by
      have h3 := (hits.out.cell b off rfl 0 _ rfl).2.2.2.1
      simp only [Nat.zero_mul, Nat.add_zero, itm] at h3
      exact ⟨h3, World.block_lt_of_cell? _ _ h3⟩)
    clear hM hL hrow hK hT hck hall hsec hits
    go_cut [14] from 47 to 61 (fun q wr => ∃ QB gI cI : Nat, q = .pointer (some ⟨QB, 0, none⟩) ∧ Hid (PlanCut W (itm A l.length c l) QB gI cI wr))
    case first =>
      go_region_held3 (fun w' => w'.cell? ⟨w.heap.size, 0, none⟩ = some (.int .u32 0) ∧ w'.cell? ⟨w.heap.size, 1, none⟩ = some (.int .u8 0) ∧ w'.cell? ⟨w.heap.size, 2, none⟩ = some (.int .u8 0) ∧ w'.cell? ⟨w.heap.size, 3, none⟩ = some (.slice (some ⟨b, off, none⟩) 1 ic) ∧ w'.cell? ⟨w.heap.size, 4, none⟩ = some (.slice none 0 0) ∧ w'.cell? ⟨w.heap.size, 5, none⟩ = some (.slice none 0 0) ∧ w'.cell? ⟨w.heap.size, 6, none⟩ = some (.slice none 0 0)) (go_keep) (first | (go_at_call 16; refine (hit.out _ (by with_reducible (repeat (first | exact hPM.out.below | refine Below.drew ?_ | refine below_drewN ?_ _ | refine Below.alloc ?_ (by first | omega | (simp; omega)) _)))).mono ?_; rintro e w5 ⟨gI, cI, rfl, hoI, hbI⟩; have hPM5 := Lib.hid (PM.next (w := w) (A := some ⟨b, off, none⟩) (ic := ic) (by_ := by_) (by with_reducible (repeat (first | exact hPM.out | refine PM.drew ?_ | refine PM.drewN ?_ _ | refine PM.alloc ?_ _))) hbI); obtain ⟨⟨d0, d1, d2, d3, d4, d5, d6⟩, _⟩ := cells7 hPM5.out.p; (try (have hQ5 := (hbI.block W.heap.size (by simp)).trans (heap_alloc_at _ _ _ (by simp)); obtain ⟨⟨e0, e1, e2, e3, e4, e5, e6⟩, ef⟩ := cells7 hQ5; have hQ5' := Lib.hid hQ5; clear hQ5)); have hPMs5 := hPM5.out.size; have hlt5 : w.heap.size < w5.heap.size := (by omega); have hne3 : ¬ w.heap.size = w5.heap.size := (by omega); have hne4 : ¬ w5.heap.size = w.heap.size := (by omega); have hbI' : Hid (Below W.heap.size W w5) := Lib.hid (Below.trans (by with_reducible (repeat (first | exact Below.refl W.heap.size W | refine Below.drew ?_ | refine below_drewN ?_ _ | refine Below.alloc ?_ (by first | exact Nat.le_refl _ | simp) _))) (hbI.mono (B' := W.heap.size) (by first | exact Nat.le_refl _ | simp))); have hoI' := Lib.hid hoI; clear hbI hoI) | (go_at_call 17; refine (hnc.out _).mono ?_; rintro e w6 ⟨rfl, rfl⟩))
      all_goals (go_wp2_with fail; go_meet)
      all_goals first
        | (refine ⟨w5.heap.size, gI, cI, rfl, ?_⟩; exact ⟨hbI'.out.alloc hbI'.out.size _, heap_alloc_at _ _ _ rfl, hbI'.out.size, (Joins.ownsRow_le hoI'.out (Nat.le_refl _)).alloc _⟩)
        | (have hb9 := hbI'.out
           have ho9 : w5.ownsRow (W.heap.size + 1) _ _ _ _ _ := Joins.ownsRow_le hoI'.out (by first | exact Nat.le_refl _ | simp)
           refine ⟨W.heap.size, gI, cI, rfl, ⟨?_, store7 hQ5'.out _ _ _ _ _ _ _, Nat.le_refl _, Joins.ownsRow_le (base := W.heap.size + 1) ?_ (by omega)⟩⟩
           · with_reducible (repeat (first | exact hb9 | refine Below.setCell ?_ (by simp) _))
           · with_reducible (repeat (first | exact ho9 | refine ownsRow_setCell_below ?_ (by simp) _)))
    case rest =>
      obtain ⟨QB, gI, cI, rfl, hC⟩ := hcut
      have hPM9 := Lib.hid (hPM.out.next hC.out.below)
      have hPL9 := Lib.hid ((hC.out.below.block w2.heap.size (by omega)).trans hPL.out)
      have hRW9 := Lib.hid (ownsRow_mem hRW.out hC.out.below)
      obtain ⟨⟨d0, d1, d2, d3, d4, d5, d6⟩, _⟩ := cells7 hPM9.out.p
      clear c0 c1 c2 c3 c4 c5 c6
      gi_wp2_with (refine ⟨trivial, ?_⟩; gi_at_call 18; refine (callsIn_wide.2 (hord.out _)).mono ?_; rintro e w7 ⟨gO, rfl, hgO, hbO⟩)
      have hPM7 := Lib.hid (hPM9.out.next hbO)
      have hC7 : Hid (PlanCut W (itm A l.length c l) QB gI cI w7) := Lib.hid ⟨hC.out.below.trans (hbO.mono hC.out.below.size), (hbO.block QB (by have := (Array.getElem?_eq_some_iff.1 hC.out.q).1; omega)).trans hC.out.q, hC.out.qb, ownsRow_mem hC.out.items hbO⟩
      have hPL7 := Lib.hid ((hbO.block w2.heap.size (by have := hC.out.below.size; omega)).trans hPL9.out)
      have hRW7 := Lib.hid (ownsRow_mem hRW9.out hbO)
      clear hbO d0 d1 d2 d3 d4 d5 d6
      gi_loopw [65] (fun i wr => (i = .int .i64 0 ∧ wr = w7) ∨ (i = .int .i64 1 ∧ Hid (PlanFin w (some ⟨b, off, none⟩) ic by_ QB gI cI l.length (twPut by_ l (vals ys)) D wr))) (fun i _ => 1 - (intOf i).toNat)
      case atStart => exact Or.inl ⟨rfl, rfl⟩
      case round =>
        rcases hrel with ⟨rfl, rfl⟩ | ⟨rfl, hFin⟩
        · have hs7 := hC7.out.below.size
          have hgI := hC7.out.items.lt gI rfl
          have hQs := (Array.getElem?_eq_some_iff.1 hC7.out.q).1
          have hQb := hC7.out.qb
          have hQI : ¬ QB = gI := by
            rintro rfl
            rcases hC7.out.items.2 with ⟨h0, _⟩ | ⟨g', cap', cur, h0, _, hgg, _⟩
            · cases h0
            · injection h0 with h1; injection h1 with h1; injection h1 with h1; subst h1
              rw [hC7.out.q] at hgg; injection hgg with hgg; injection hgg with _ hgg; exact absurd hgg (by decide)
          have hQI2 : ¬ gI = QB := fun e => hQI e.symm
          have hLI : ¬ w2.heap.size = gI := by omega
          have hLI2 : ¬ gI = w2.heap.size := by omega
          have hQL : ¬ QB = w2.heap.size := by omega
          obtain ⟨⟨d0, d1, d2, d3, d4, d5, d6⟩, _⟩ := cells7 hC7.out.q
          have p3 : wr.cell? ⟨w.heap.size, 3, none⟩ = some (.slice (some ⟨b, off, none⟩) 1 ic) := (cells7 hPM7.out.p).1.2.2.2.1
          have x3 : wr.cell? ⟨b, off + 3, none⟩ = some (.slice A l.length c) := (hPM7.out.below.cell (p := ⟨b, off + 3, none⟩) hD3.out.2).trans hD3.out.1
          have l7 : wr.cell? ⟨w2.heap.size, 0, none⟩ = some (.slice A2 l.length cp2) := (cell_of_row _ _ 0 _ _ _ hPL7.out).trans rfl
          have lf7 : wr.frozen? ⟨w2.heap.size, 0, none⟩ = false := frozen_of_row _ _ 0 _ _ hPL7.out
          have gc3 : wr.cell? ⟨gI, 3, none⟩ = some (.slice A l.length c) := (hC7.out.items.cellAt 3 (by omega)).trans rfl
          have gf3 : wr.frozen? ⟨gI, 3, none⟩ = false := hC7.out.items.frozenAt 3
          have hicb := hits0.out
          have hr7 := Lib.hid (owns_rd' hRW7.out)
          have hle7 := hr7.out.le
          have hnc7 : (l.length : Int) ≤ cp2 := by omega
          clear d0 d1 d2 d4 d5 d6
          gi_wp2
          refine wpIn_wide.2 ?_
          have hcl := Lib.hid fun W' hW' => bytesClone_any W' A2 l.length cp2 _ (hr7.out.below hW') (by have := hn'.out; omega)
          have hC7' := Lib.hid hC7.out
          clear hit hnc hord c0 c1 c2 c3 c4 c5 c6
          go_region_held3 (fun w' => w'.cell? ⟨QB, 3, none⟩ = some (.slice (some ⟨gI, 0, none⟩) 1 cI) ∧ w'.cell? ⟨w2.heap.size, 0, none⟩ = some (.slice A2 l.length cp2)) (go_keep) ((go_at_call 13; refine (hcl.out _ (by with_reducible (repeat (first | exact Below.refl _ _ | refine Below.drew ?_)))).mono ?_; rintro e w8 ⟨v8, rfl, ho8, _, hb8⟩; obtain ⟨A8, c8, rfl⟩ := own_sl ho8; have hb8' : Hid (Below wr.heap.size wr w8) := Lib.hid (Below.trans (by with_reducible (repeat (first | exact Below.refl wr.heap.size wr | refine Below.drew ?_))) (hb8.mono (B' := wr.heap.size) (by first | exact Nat.le_refl _ | simp))); have ho8' := Lib.hid (Joins.ownsRow_le (base' := wr.heap.size) ho8 (by first | exact Nat.le_refl _ | simp)); have q8 := (hb8'.out.cell (p := ⟨QB, 3, none⟩) hQs).trans d3; have l8 := (hb8'.out.cell (p := ⟨w2.heap.size, 0, none⟩) (by show w2.heap.size < wr.heap.size; omega)).trans l7; have lf8 := (hb8'.out.frozen (p := ⟨w2.heap.size, 0, none⟩) (by show w2.heap.size < wr.heap.size; omega)).trans lf7; have g8 := (hb8'.out.cell (p := ⟨gI, 3, none⟩) hgI.2).trans gc3; have gf8 := (hb8'.out.frozen (p := ⟨gI, 3, none⟩) hgI.2).trans gf3; clear hb8 ho8))
          gi_wp2
          refine ⟨Or.inr ⟨rfl, ?_⟩, by simp [intOf]⟩
          generalize (if cp2 = l.length then A2 else Option.map (fun x => x.add l.length) A2) = A10
          have hkk : ∀ k, k ≠ gI → k ≠ w2.heap.size → ((w8.setCell ⟨gI, 3, none⟩ (.slice A8 l.length c8)).setCell ⟨w2.heap.size, 0, none⟩ (.slice A10 0 (cp2 - l.length))).heap[k]? = w8.heap[k]? := fun k h1 h2 => (Below.heap_setCell _ ⟨w2.heap.size, 0, none⟩ _ k h2).trans (Below.heap_setCell _ ⟨gI, 3, none⟩ _ k h1)
          have hcg : ((w8.setCell ⟨gI, 3, none⟩ (.slice A8 l.length c8)).setCell ⟨w2.heap.size, 0, none⟩ (.slice A10 0 (cp2 - l.length))).cell? ⟨gI, 3, none⟩ = some (.slice A8 l.length c8) :=
            (World.cell?_of_block (w := w8.setCell ⟨gI, 3, none⟩ (.slice A8 l.length c8)) (a := ⟨gI, 3, none⟩) (Below.heap_setCell _ ⟨w2.heap.size, 0, none⟩ _ gI hLI2)).trans (World.cell?_setCell_same' _ _ _ (by rw [g8]; rfl))
          have hof : ((w8.setCell ⟨gI, 3, none⟩ (.slice A8 l.length c8)).setCell ⟨w2.heap.size, 0, none⟩ (.slice A10 0 (cp2 - l.length))).ownsRow wr.heap.size 5 1 (.slice A8 l.length c8) l.length (bc (twPut by_ l (vals ys))) :=
            ownsRow_setCell_below (ownsRow_setCell_below ho8'.out hgI.2 _) (by show w2.heap.size < wr.heap.size; omega) _
          have hsF : w8.heap.size ≤ ((w8.setCell ⟨gI, 3, none⟩ (.slice A8 l.length c8)).setCell ⟨w2.heap.size, 0, none⟩ (.slice A10 0 (cp2 - l.length))).heap.size := by simp
          have hW3 := hPM.out.size
          have hbF : Below (w.heap.size + 3) w8 ((w8.setCell ⟨gI, 3, none⟩ (.slice A8 l.length c8)).setCell ⟨w2.heap.size, 0, none⟩ (.slice A10 0 (cp2 - l.length))) :=
            ((Below.refl _ _).setCell (p := ⟨gI, 3, none⟩) (by show w.heap.size + 3 ≤ gI; omega) _).setCell (p := ⟨w2.heap.size, 0, none⟩) (by show w.heap.size + 3 ≤ w2.heap.size; omega) _
          generalize (w8.setCell ⟨gI, 3, none⟩ (.slice A8 l.length c8)).setCell ⟨w2.heap.size, 0, none⟩ (.slice A10 0 (cp2 - l.length)) = wF at hkk hcg hof hsF hbF ⊢
          have hDw := (Array.getElem?_eq_some_iff.1 hDK.out).1
          have hDr := (hC7'.out.below.block D hDw).trans hDK.out
          have hDg : D ≠ gI := fun e => by subst e; simp [World.cell?, hDr] at gc3
          have hDl : D ≠ w2.heap.size := by simp at hD; omega
          exact ⟨(hkk D hDg hDl).trans ((hb8'.out.block D (by omega)).trans hDr), (hPM7.out.next hb8'.out).kept hbF, (hkk QB hQI hQL).trans ((hb8'.out.block QB hQs).trans hC7'.out.q), by omega, by
            rcases hC7'.out.items.2 with ⟨h0, _⟩ | ⟨g', cap', cur, h0, _, hgg, hcc, _⟩
            · cases h0
            · injection h0 with _ _ h1; omega, A8, c8, hcg, Joins.ownsRow_le hof (by omega)⟩
        · obtain ⟨⟨⟨d0, d1, d2, d3, d4, d5, d6⟩, _⟩, ⟨e0, e1, e2, e3, e4, e5, e6⟩, ef⟩ := And.intro (cells7 hFin.out.q) (cells7 hFin.out.pm.q)
          gi_wp2
          have hDs : w.heap.size + 3 ≤ D := by have := hPM.out.size; simp at hD; omega
          obtain ⟨A9, c9, hcI, hoA⟩ := hFin.out.out
          have hq9 := store7 (b := w.heap.size + 1 + 1) hFin.out.pm.q (.int .u32 0) (.int .u8 0) (.int .u8 0) (.slice (some ⟨gI, 0, none⟩) 1 cI) (.slice none 0 0) (.slice none 0 0) (.slice none 0 0)
          have hkk : ∀ k, k ≠ w.heap.size + 1 + 1 → (((((((wr.setCell ⟨w.heap.size + 1 + 1, 0, none⟩ (.int .u32 0)).setCell ⟨w.heap.size + 1 + 1, 1, none⟩ (.int .u8 0)).setCell ⟨w.heap.size + 1 + 1, 2, none⟩ (.int .u8 0)).setCell ⟨w.heap.size + 1 + 1, 3, none⟩ (.slice (some ⟨gI, 0, none⟩) 1 cI)).setCell ⟨w.heap.size + 1 + 1, 4, none⟩ (.slice none 0 0)).setCell ⟨w.heap.size + 1 + 1, 5, none⟩ (.slice none 0 0)).setCell ⟨w.heap.size + 1 + 1, 6, none⟩ (.slice none 0 0)).heap[k]? = wr.heap[k]? := fun k hk => by
            repeat rw [Below.heap_setCell _ _ _ k hk]
          have hbf : Below w.heap.size w (((((((wr.setCell ⟨w.heap.size + 1 + 1, 0, none⟩ (.int .u32 0)).setCell ⟨w.heap.size + 1 + 1, 1, none⟩ (.int .u8 0)).setCell ⟨w.heap.size + 1 + 1, 2, none⟩ (.int .u8 0)).setCell ⟨w.heap.size + 1 + 1, 3, none⟩ (.slice (some ⟨gI, 0, none⟩) 1 cI)).setCell ⟨w.heap.size + 1 + 1, 4, none⟩ (.slice none 0 0)).setCell ⟨w.heap.size + 1 + 1, 5, none⟩ (.slice none 0 0)).setCell ⟨w.heap.size + 1 + 1, 6, none⟩ (.slice none 0 0)) := by
            have hb2 := hFin.out.pm.below
            with_reducible (repeat (first | exact hb2 | refine Below.setCell ?_ (by simp; omega) _))
          have hof : ((((((((wr.setCell ⟨w.heap.size + 1 + 1, 0, none⟩ (.int .u32 0)).setCell ⟨w.heap.size + 1 + 1, 1, none⟩ (.int .u8 0)).setCell ⟨w.heap.size + 1 + 1, 2, none⟩ (.int .u8 0)).setCell ⟨w.heap.size + 1 + 1, 3, none⟩ (.slice (some ⟨gI, 0, none⟩) 1 cI)).setCell ⟨w.heap.size + 1 + 1, 4, none⟩ (.slice none 0 0)).setCell ⟨w.heap.size + 1 + 1, 5, none⟩ (.slice none 0 0)).setCell ⟨w.heap.size + 1 + 1, 6, none⟩ (.slice none 0 0))).ownsRow (w.heap.size + 3) 5 1 (.slice A9 l.length c9) l.length (bc (twPut by_ l (vals ys))) := by
            with_reducible (repeat (first | exact hoA | refine ownsRow_setCell_below ?_ (by simp) _))
          generalize (((((((wr.setCell ⟨w.heap.size + 1 + 1, 0, none⟩ (.int .u32 0)).setCell ⟨w.heap.size + 1 + 1, 1, none⟩ (.int .u8 0)).setCell ⟨w.heap.size + 1 + 1, 2, none⟩ (.int .u8 0)).setCell ⟨w.heap.size + 1 + 1, 3, none⟩ (.slice (some ⟨gI, 0, none⟩) 1 cI)).setCell ⟨w.heap.size + 1 + 1, 4, none⟩ (.slice none 0 0)).setCell ⟨w.heap.size + 1 + 1, 5, none⟩ (.slice none 0 0)).setCell ⟨w.heap.size + 1 + 1, 6, none⟩ (.slice none 0 0)) = Wf at hq9 hbf hof hkk ⊢
          have hgb := hFin.out.gb
          have hdk := (hkk D (by omega)).trans hFin.out.dk
          have hcg : Wf.cell? ⟨gI, 3, none⟩ = some (.slice A9 l.length c9) := (World.cell?_of_block (w := wr) (w' := Wf) (a := ⟨gI, 3, none⟩) (hkk gI (by omega))).trans hcI
          refine ⟨by simp, .inl ⟨_, _, rfl, run_takeDeferred hdk, ?_⟩⟩
          have hgD : gI ≠ D := fun e => by subst e; simp [World.cell?, hdk] at hcg
          have g1 := (World.putObj_heap_other (w := Wf) (o := Obj.deferred none) (show w.heap.size + 1 + 1 ≠ D by omega)).trans hq9
          obtain ⟨⟨k0, k1, k2, k3, k4, k5, k6⟩, _⟩ := cells7 g1
          have hly : (twPut by_ l (vals ys)).length = l.length := by have := hof.1; rw [bc_len] at this; omega
          refine ⟨.tuple #[plan1 (some ⟨gI, 0, none⟩) cI, .int .i64 0], ?_, gI, cI, A9, c9, rfl, hFin.out.cb, ?_, ?_, ?_⟩
          · simp [plan1, results, Tryd.f5, go_sem, k0, k1, k2, k3, k4, k5, k6]
          · rw [twinM, ← hys, hly]
            exact (World.cell?_of_block (w := Wf) (w' := Wf.putObj D (Obj.deferred none)) (a := ⟨gI, 3, none⟩) (World.putObj_heap_other hgD)).trans hcg
          · rw [twinM, ← hys, hly]
            exact owns_rd' (ownsRow_putObj hof _ hdk rfl)
          · exact hbf.trans (belowK_b (w := w) (Nat.le_refl _) Wf D _ _ (by omega) hdk rfl rfl)
  case stop =>
    rintro D c pre W _ _ h _
    exact h.elim
end Go.Proofs.YtnogcpjfgnpbbaaDoor
