/- The contracts of twin.secret, Secret, Count at a plan of one item. Conditions: sizes within what a machine holds; the pinned tables of unicode/utf8. -/
import Derived.Test.YtnogcpjfgnpbbaaDoorSecA
set_option linter.unusedSimpArgs false
set_option linter.unusedVariables false
namespace Go.Proofs.YtnogcpjfgnpbbaaDoor
open Go.RowKit
attribute [local go_sem] Oper.semAt_some

theorem secret_any (w : World) (A : Option Addr) (n c : Nat) :
    Calls Tryd.prog 12 #[.slice A n c] w fun e w' => e = .returned (.func (.func 23) #[] #[.pointer (some ⟨w.heap.size, 0, none⟩)]) ∧ w' = w.alloc (.cells #[.slice A n c] 22) := by
  go_enter Tryd.func12, Tryd.ntmps12
  go_wp2
  go_ret
  exact ⟨rfl, rfl⟩

/-- the blocks that the iterator reads -/
def own3 (m g s : Nat) (k : Nat) : Prop := k < m ∨ k = g ∨ k = s
theorem secret_stops (n : Nat) (hn : 1 ≤ n) (Bs cap m g : Nat) (A : Option Addr) (L : List UInt8) (hL : L.length ≤ 1000000) (w : World) (hg : g < w.heap.size) (hm : m ≤ w.heap.size) (hs : w.heap[Bs]? = some (.cells #[.slice A L.length cap] 22 (0, 0)))
    (hT : ∀ W', Below m w W' → Tabs W') (hR : Rd w A L.length cap L) (hA : ∀ ad, A = some ad → ad.block = g) :
    SeqStopsK Fence.wide n Tryd.prog 23 #[.pointer (some ⟨Bs, 0, none⟩)] (fun x : Sec L.length => #[Value.int .i64 (x.1.1 : Nat), Value.int .i64 (x.1.2 : Nat)]) (KeepP (own3 m g Bs)) (fun ys => vals ys = secretM L) (fun _ => True) L.length w := fun l J Jx W hW hJ _ hY h0 => by
  have hBs : Bs < w.heap.size := (Array.getElem?_eq_some_iff.1 hs).1
  have hp : ∀ k, own3 m g Bs k → k < w.heap.size := by rintro k (h | rfl | rfl) <;> omega
  have hpW : ∀ k, own3 m g Bs k → k < W.heap.size := fun k hk => Nat.lt_of_lt_of_le (hp k hk) hW.size
  have hK0 : KeepP (own3 m g Bs) w W := KeepP.of_below hp hW
  refine secret1_in n hn l Bs cap (own3 m g Bs) A L hL W.heap.size J Jx hJ hY W hpW ?_ ?_ ?_ h0
  · intro W' hk
    have := ((hK0.trans hk).block Bs (Or.inr (Or.inr rfl))).trans hs
    simp [World.cell?, this]
  · intro W' hk
    exact hT W' ((hK0.trans hk).below fun k hk => Or.inl hk)
  · intro W' hk
    cases A with
    | none => exact ⟨hR.len, hR.le, hR.big, hR.nil, hR.spot, fun _ _ e => nomatch e⟩
    | some ad =>
      obtain ⟨b, off, sp⟩ := ad
      have h1 := hR.spot _ rfl; simp at h1; subst h1
      have h2 := hA _ rfl; simp at h2; subst h2
      exact hR.block ((hK0.trans hk).block b (Or.inr (Or.inl rfl)))

def SecRes (n : Nat) (w : World) (e : Ending) (w' : World) : Prop := ∃ A c, e = .returned (.tuple #[.slice A n c, .int .i64 0]) ∧ Below w.heap.size w w'
set_option maxRecDepth 100000 in
set_option maxHeartbeats 2000000 in
theorem secretF_any (w : World) (b off ic : Nat) (A : Option Addr) (n c : Nat) (l : List UInt8) (h : Its w (some ⟨b, off, none⟩) 1 ic [itm A n c l]) (hn : n ≤ 1000000) (hT : Tabs w) :
    Calls Tryd.prog 22 #[plan1 (some ⟨b, off, none⟩) ic] w fun e w' => SecRes (secretM l).length w e w' := by
  have hln : l.length = n := (h.cell b off rfl 0 _ rfl).2.2.2.2.len
  subst hln
  have hck := Lib.hid fun W hW => worldCheck_any W 0 0 0 (some ⟨b, off, none⟩) 1 ic none none none 0 0 0 0 0 0 [itm A l.length c l] (h.below hW)
  have hall := Lib.hid fun W hW => all1_any W b off ic A l.length c l (h.below hW) hn
  obtain ⟨i0, hi, hz0, hz1, hz2⟩ := info_parts info_i64
  unfold plan1 at hall ⊢
  have hck0 : wCheck [itm A l.length c l] = 0 := by simp [wCheck, badItems, badItem, itm]
  rw [hck0] at hck
  have hn' := Lib.hid hn
  clear h hn
  refine (callsIn_wide (n := 3)).1 ?_
  refine callsIn_of_wp_marks Tryd.func22 rfl trivial ?_ rfl
  simp only [Tryd.ntmps22, List.size_toArray, List.length_cons, List.length_nil, Nat.reduceAdd, Nat.reduceSub, Array.replicate_succ, Array.replicate_zero, List.push_toArray, List.append_toArray, List.nil_append, List.cons_append]
  have hsec := Lib.hid fun W A n c => secret_any W A n c
  gi_wp2_with (first | (refine ⟨trivial, ?_⟩; gi_at_call 10; refine (callsIn_wide.2 (hck.out _ (Below.alloc (Below.refl _ w) (Nat.le_refl _) _))).mono ?_; rintro e w1 ⟨rfl, hb1⟩; have hP1 := (hb1.block w.heap.size (by simp)).trans (heap_alloc_new w _); obtain ⟨⟨c0, c1, c2, c3, c4, c5, c6⟩, _⟩ := cells7 hP1; have hs0 : w.heap.size < w1.heap.size := (by have := hb1.size; simp at this; omega); have hB1 := Lib.hid (((Below.refl _ w).alloc (Nat.le_refl _) _).trans (hb1.mono (by simp))); clear hb1 hP1) | (refine ⟨trivial, ?_⟩; gi_at_call 11; refine (callsIn_wide.2 (hall.out _ (Below.alloc hB1.out hB1.out.size _))).mono ?_; rintro e w2 ⟨A2, cp2, rfl, ho2, hb2⟩; have hL2 := Lib.hid ((hb2.block w1.heap.size (by simp)).trans (heap_alloc_new w1 _)); have hB2 := Lib.hid ((hB1.out.alloc hB1.out.size _).trans (hb2.mono (by simp; omega))); have ho2' := Lib.hid ho2; have hs2 := hb2.size; simp only [World.size_alloc] at hs2; clear hb2 ho2) | (refine ⟨trivial, ?_⟩; gi_at_call 12; refine (callsIn_wide.2 (hsec.out _ _ _ _)).mono ?_; rintro e w3 ⟨rfl, rfl⟩))
  have hA2 : ∀ ad, A2 = some ad → w1.heap.size + 1 ≤ ad.block ∧ ad.block < w2.heap.size := fun ad e => by
    have h := ho2'.out.lt ad.block (by rw [e]; rfl)
    simpa using h
  obtain ⟨A', c', hsl, hR2⟩ := owns_rd ho2'.out
  obtain ⟨rfl, rfl⟩ : A2 = A' ∧ cp2 = c' := by injection hsl; exact ⟨by assumption, by assumption⟩
  obtain ⟨g, hg1, hg2, hg3⟩ : ∃ g, g < w2.heap.size + 1 ∧ w1.heap.size < g ∧ ∀ ad, A2 = some ad → ad.block = g := by
    cases A2 with
    | none => exact ⟨w2.heap.size, by omega, by omega, fun _ e => nomatch e⟩
    | some ad => have := hA2 ad rfl; exact ⟨ad.block, by omega, by omega, fun _ e => by cases e; rfl⟩
  have hp : ∀ k, own3 w.heap.size g w2.heap.size k → k < w2.heap.size + 1 ∧ k ≠ w1.heap.size := by rintro k (h | rfl | rfl) <;> omega
  have bL : Boxed (w2.alloc (.cells #[.slice A2 l.length cp2] 22)) w1.heap.size 28 (.slice none 0 0) := Boxed.alloc (W := w2) (hL2.out) _
  have hB3 := hB2.out.alloc hB2.out.size (.cells #[.slice A2 l.length cp2] 22)
  refine wpIn_rangeFunc_ownG rfl (by omega) (gf := 23) (lb := #[.pointer (some ⟨w2.heap.size, 0, none⟩)]) rfl trivial (enters_of Tryd.func23 (by kernel_rfl) rfl)
    (secret_stops (3 - 1) (by omega) w2.heap.size cp2 w.heap.size g A2 l hn'.out _ (by simpa using hg1) (by simp; omega) (heap_alloc_at _ _ _ rfl) (fun W' hW' => hT.below (hB3.trans hW')) (hR2.below ((Below.refl _ _).alloc (Nat.le_refl _) _)) hg3)
    KeepP.trans (fun W l o o' hl h _ _ => KeepP.putObj (m := w2.heap.size + 1) (fun k hk => (hp k hk).1) W l o o' (by simpa using hl) h) (Below.refl _ _) (fun _ => rfl)
    (fun (pre : List (Sec l.length)) W => ((∃ v, Boxed W w1.heap.size 28 v ∧ W.ownsRow (w2.heap.size + 1) 3 1 v pre.length (pre.map fun x => Value.int .i64 (x.1.2 : Nat)) ∧ True) ∧ Below w.heap.size w W) ∧ w2.heap.size + 1 ≤ W.heap.size)
    (fun _ _ _ => False)
    (OwnFrom.and (OwnFrom.and (Own.from (holdsRow_own (w2.heap.size + 1) w1.heap.size 28 3 1 (fun pre : List (Sec l.length) => pre.length) (fun pre : List (Sec l.length) => pre.map fun x => Value.int .i64 (x.1.2 : Nat)) (fun _ _ => True)) _) (ownFrom_below (Nat.le_refl _) (by simp; omega))) (fun s X Y row hs hg hr => Nat.le_trans hs hg.size))
    (fun _ _ _ _ _ hs _ _ => hs)
    ⟨⟨⟨_, bL, World.ownsRow_nil _ _ _ _, trivial⟩, hB3⟩, by simp⟩
    (fun x => { tmps := #[.agg #[.int .u32 0, .int .u8 0, .int .u8 0, .slice (some ⟨b, off, none⟩) 1 ic, .slice none 0 0, .slice none 0 0, .slice none 0 0], .pointer (some ⟨w.heap.size, 0, none⟩), .slice none 0 0, .int .i64 0, .int .i64 0, .pointer (some ⟨w1.heap.size, 0, none⟩), undef, .int .i64 (x.1.2 : Nat),
      .agg #[.int .u32 0, .int .u8 0, .int .u8 0, .slice (some ⟨b, off, none⟩) 1 ic, .slice none 0 0, .slice none 0 0, .slice none 0 0], .int .i64 0, .int .i64 0, .bool false, undef, .agg #[.int .u32 0, .int .u8 0, .int .u8 0, .slice (some ⟨b, off, none⟩) 1 ic, .slice none 0 0, .slice none 0 0, .slice none 0 0], .slice A2 l.length cp2,
      .func (.func 23) #[] #[.pointer (some ⟨w2.heap.size, 0, none⟩)], .int .i64 (x.1.1 : Nat), .int .i64 (x.1.2 : Nat), undef, undef, undef, undef, undef], defers := [] }) ?assign ?body ?done ?stop
  case assign =>
    intro l x W K hK
    gi_wp2
    exact hK
  case body =>
    rintro lp pre x W ⟨⟨⟨v, hv, hrow, _⟩, hB⟩, hWs⟩ hlt
    have hc := hv.cell
    have hn2 := hn'.out
    gi_wp2_with (gi_at_builtin; refine wpListIn_append_own _ rfl _ _ 28 rfl (w2.heap.size + 1) 3 i0 (.int .i64 0) 1 8 Tryd.underlying28 hi hz0 hz1 hz2 rfl (by decide) _ _ _ rfl (hrow.alloc _) ⟨W.heap.size, 0, none⟩ 1 1 [.int .i64 (x.1.2 : Nat)] rfl rfl (cell_one_new _ _ _) (by simp [Value.oneCell']) (by unfold maxLen; omega) (by omega) (by simp; omega) ?_; intro v' w3 hown' hgrow _; obtain ⟨g', cap', rfl⟩ := ownsRow_succ hown'; obtain ⟨hv1, hv2, _, hk2, hb2⟩ := hv.appended (n₀ := w1.heap.size) (by decide) (Joins.ownsRow_le hrow (by omega)) (by omega) (Nat.le_refl _) (Joins.ownsRow_le hown' (by omega)) hgrow; have hc1 := hv1.cell; have hf1 := hv1.frozen; have hr2 := hown'.kept (grownBy_setCell' w3 w1.heap.size (.slice (some ⟨g', 0, none⟩) (pre.length + 1) cap')) (.inr (hv1.not_row (by decide) hown').symm))
    refine ⟨hk2.from _, ?_, ⟨⟨_, hv2, by simpa using hr2, trivial⟩, hB.trans (hb2.mono (by omega))⟩, Nat.le_trans hWs hb2.size⟩
    have hpW : ∀ k, own3 w.heap.size g w2.heap.size k → k < W.heap.size := fun k hk => Nat.lt_of_lt_of_le (hp k hk).1 hWs
    refine KeepP.setCell (KeepP.grown ((KeepP.refl _ W).alloc hpW _) hgrow hpW ?_) ?_ _
    · intro k e hk
      have := (hrow.lt k e).1
      have := (hp k hk).1
      omega
    · exact fun hk => (hp _ hk).2 rfl
  case done =>
    rintro D ys W hD hys ⟨⟨⟨v, hv, hrow, _⟩, hB⟩, _⟩ hK
    have hc := hv.cell
    obtain ⟨A3, c3', rfl⟩ := own_sl hrow
    gi_wp2
    refine ⟨by simp, .inl ⟨_, _, rfl, run_takeDeferred hK, ?_⟩⟩
    refine ⟨.tuple #[.slice A3 ys.length c3', .int .i64 0], ?_, A3, c3', ?_, hB.trans (belowK_b (w := w) (Nat.le_refl _) W D _ _ (by simp at hD; omega) hK rfl rfl)⟩
    · simp [results, Tryd.f22, go_sem]
    · rw [← hys]; simp [vals]
  case stop =>
    rintro D c pre W _ _ h _
    exact h.elim

set_option maxHeartbeats 1000000 in
theorem count_any (w : World) (b off ic : Nat) (A : Option Addr) (n c : Nat) (l : List UInt8) (h : Its w (some ⟨b, off, none⟩) 1 ic [itm A n c l]) (hn : n ≤ 1000000) (hT : Tabs w) :
    Calls Tryd.prog 9 #[plan1 (some ⟨b, off, none⟩) ic] w fun e w' => e = .returned (.tuple #[.int .i64 (secretM l).length, .int .i64 0]) ∧ Below w.heap.size w w' := by
  have hs := Lib.hid fun W hW => secretF_any W b off ic A n c l (h.below hW) hn (hT.below hW)
  unfold plan1 at hs ⊢
  clear h hT
  go_enter Tryd.func9, Tryd.ntmps9
  go_wp2_with (go_at_call 22; refine (hs.out _ (Below.alloc (Below.refl _ w) (Nat.le_refl _) _)).mono ?_; rintro e w1 ⟨A', c', rfl, hb⟩)
  go_ret2
  exact ⟨rfl, ((Below.refl _ w).alloc (Nat.le_refl _) _).trans (hb.mono (by simp))⟩
end Go.Proofs.YtnogcpjfgnpbbaaDoor
