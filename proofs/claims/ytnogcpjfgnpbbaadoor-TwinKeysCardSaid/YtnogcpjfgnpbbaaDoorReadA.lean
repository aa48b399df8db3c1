/- The contract of whispererref10.Read. Conditions: fewer bytes than a machine holds. -/
import Derived.Test.YtnogcpjfgnpbbaaDoorPRead
set_option linter.unusedSimpArgs false
set_option linter.unusedVariables false
namespace Go.Proofs.YtnogcpjfgnpbbaaDoor
open Go.RowKit

theorem rEsc_any (w : World) (b off n c : Nat) (l : List UInt8) (h : Rd w (some ⟨b, off, none⟩) n c l) :
    Calls Tryd.prog 19 #[.slice (some ⟨b, off, none⟩) n c] w fun e w' => KeyRes (eNext l) e ∧ Below w.heap.size w w' := by
  match l, h with
  | [], h =>
    obtain rfl : n = 0 := by have := h.len; simpa using this.symm
    exact rEsc_nil w b off c
  | [x], h =>
    obtain rfl : n = 1 := by have := h.len; simpa using this.symm
    by_cases hx : x.toNat = 27
    · have e : eNext [x] = (0, 1, 7) := by rw [eNext, if_pos hx]
      rw [e]; exact rEsc_one w b off c x h hx
    · have e : eNext [x] = (0, 0, 8) := by rw [eNext, if_neg hx]
      rw [e]; exact rEsc_not w b off 1 c x [] h hx
  | x :: y :: r, h =>
    by_cases hx : x.toNat = 27
    · by_cases hy : y.toNat ≠ 91 ∧ y.toNat ≠ 79
      · have e : eNext (x :: y :: r) = (15, 1, 0) := by rw [eNext, if_pos hx, if_pos hy]
        rw [e]; exact rEsc_other w b off n c x y r h hx hy.1 hy.2
      · have e : eNext (x :: y :: r) = escan (x :: y :: r) (decide (y.toNat = 79)) (r.length + 1) 2 false := by rw [eNext, if_pos hx, if_neg hy]
        rw [e]
        refine rEsc_scan w b off n c x y r (decide (y.toNat = 79)) h hx ?_
        by_cases h9 : y.toNat = 79
        · simp [h9]
        · simp [h9]; omega
    · have e : eNext (x :: y :: r) = (0, 0, 8) := by rw [eNext, if_neg hx]
      rw [e]; exact rEsc_not w b off n c x (y :: r) h hx

set_option maxRecDepth 100000 in
set_option maxHeartbeats 4000000 in
theorem read_any (w : World) (A0 : Option Addr) (n c0 : Nat) (l : List UInt8) (h : Rd w A0 n c0 l) (hn : n ≤ 1000000) :
    Calls Tryd.prog 7 #[.slice A0 n c0] w fun e w' => ReadRes (readM l) w e w' := by
  have hlen := Lib.hid h.len
  have hh := Lib.hid h
  have hle := h.le; have hbig := h.big
  obtain ⟨ki, hki, hkz, hksz, hkby⟩ := info_parts info_key
  replace hki := Lib.hid hki; replace hkz := Lib.hid hkz; replace hksz := Lib.hid hksz; replace hkby := Lib.hid hkby
  unfold readM
  clear h
  go_enter Tryd.func7, Tryd.ntmps7
  go_wp2
  go_loopw [4] (fun i wr => ∃ (k d : Nat) (ks : List (Int × Int)) (p : Bool) (A : Option Addr) (m c : Nat), i = .int .i64 k ∧ RdI w l k d ks p A m c wr) (fun i _ => n - (intOf i).toNat)
  case atStart =>
    refine ⟨0, l.length, [], false, none, 0, 0, rfl, ?_⟩
    constructor
    case mem =>
      exact ⟨((Below.refl _ _).alloc (Nat.le_refl _) _).alloc (by simp) _, by simp, by rw [Below.heap_alloc _ _ _ (by simp)]; exact heap_alloc_new w _, (by show ((w.heap.push _).push _)[w.heap.size + 1]? = _; rw [Array.getElem?_push, if_pos (by simp)])⟩
    case row => exact owns_nil _ _ _ _
    all_goals simp
  case round =>
    obtain ⟨k, d, ks, p, A, m, c, rfl, hI⟩ := hrel
    obtain ⟨hM, iR, iL, iK, iF, iS⟩ := hI
    have hM' := Lib.hid hM
    have iS' := Lib.hid iS; have iR' := Lib.hid iR; have iF' := Lib.hid iF; have iL' := Lib.hid iL; have iK' := Lib.hid iK
    have iZ := hM.size
    have hne := Lib.hid (ownsRow_fresh iR)
    have hBw : Hid (Below w.heap.size w wr) := hM.below
    clear iS iR iF iL
    by_cases hkn : (k : Int) < n
    · clear hM iK
      obtain ⟨b, off, rfl⟩ := hh.out.addr (by intro e; have := hlen.out; rw [e] at this; simp at this; omega)
      have hrd := hh.out.below hBw.out
      obtain ⟨x, r, hxr0⟩ : ∃ x r, l.drop k = x :: r := by
        cases hd : l.drop k with
        | nil => have := congrArg List.length hd; simp at this; have := hlen.out; omega
        | cons x r => exact ⟨x, r, rfl⟩
      have hck : ¬ c0 = k := by omega
      have hdr := hrd.drop k (by omega)
      rw [if_neg hck, hxr0] at hdr
      have hx0 := hdr.get0
      have hbs : b < wr.heap.size := World.block_lt_of_cell? _ _ hx0
      have hlr : Hid ((x :: r).length = n - k) := hdr.len
      rw [hxr0] at iS'
      have hxr := Lib.hid hxr0
      clear hxr0
      have hx8 := b_lt x
      by_cases hx : x.toNat = 27
      · have hcall := Lib.hid fun W hW => rEsc_any W b (off + k) (n - k) (c0 - k) (x :: r) (hdr.below hW)
        have hlens := Lib.hid (eNext_len x r hx)
        have hkS : Hid (∀ p, kStep x r p = ((if (p = true ∧ (eNext (x :: r)).1 ≠ 14) ∨ (p = false ∧ (eNext (x :: r)).1 = 14) then 15 else (eNext (x :: r)).1, 0), (eNext (x :: r)).2)) := Lib.hid fun p => by rw [kStep, if_pos hx]
        have hdr' := Lib.hid hdr
        rw [hx] at hx0
        clear hdr hrd hx hx8
        unfold KeyRes at hcall
        generalize eNext (x :: r) = P at *
        obtain ⟨kk, mm, er⟩ := P
        simp only at hcall hlens hkS
        have hkm : (k : Int) + mm ≤ 1000000 := by have := hlens.out.1.2; have := hlr.out; omega
        by_cases he : er = 0
        · subst he
          cases p with
          | true =>
            by_cases h14 : kk = 14
            · subst h14
              have hE := Lib.hid (rdI_step iS'.out hxr iF'.out (kk := 14) (ch := 0) (mm := mm) (p' := false) (by rw [hkS.out]; simp) (by simp [pNext]))
              clear iS' hkS
              go_wp2_with (first | (go_at_call 19; refine (hcall.out _ (Below.alloc (Below.refl _ wr) (Nat.le_refl _) _)).mono ?_; rintro e w1 ⟨rfl, hb'⟩; have hBq := ((Below.refl wr.heap.size wr).alloc (Nat.le_refl _) _).trans (hb'.mono (by simp)); have hM1 := Lib.hid (hM'.out.kept (hBq.mono iZ)); have iR1 := Lib.hid (ownsRow_mem iR'.out hBq); obtain ⟨⟨r0, r1, r2⟩, ⟨f0, f1, f2⟩, ⟨t0, t1, t2⟩, ⟨g0, g1, g2⟩⟩ := hM1.out.facts; obtain ⟨⟨kc0, kc1⟩, kf0, kf1⟩ := pair_at hb'; have ktw := pair_twice hb'; have hBk := Lib.hid hBq; have hz1 := hBq.size; have hz2 := hb'.size; simp only [World.size_alloc] at hz2; clear hBq hb') | (at_builtin; refine wpList_append_own _ rfl _ _ 35 rfl (w.heap.size + 2) 43 ki (.agg #[.int .i64 0, .int .i64 0]) 2 16 Tryd.underlying35 hki.out hkz.out hksz.out hkby.out rfl (by omega) (.slice A m c) ks.length (kc ks) rfl ?_ ⟨w1.heap.size, 0, none⟩ 1 1 (kc [(14, 0)]) ?_ (by simp [kc]) ?_ ?_ ?_ ?_ ?_ ?_; (focus (with_reducible (repeat (first | exact iR1.out | refine World.ownsRow.alloc ?_ _ | (refine ownsRow_setCell_other ?_ hne.out _) | (refine ownsRow_setCell_below ?_ (by simp) _))))); (focus (first | rfl | (simp [Act.eval, go_sem]; done))); (focus (show ∀ (j : Nat) (u : Value), [Value.int .i64 14, Value.int .i64 0][j]? = some u → _; with_reducible exact pair_news _ _ _ _ _ (by simp))); (focus (intro u hu; simp [kc] at hu; rcases hu with rfl | rfl <;> rfl)); (focus (have := iL'.out; have := iK'.out; have := hlen.out; unfold maxLen; omega)); (focus (have := iL'.out; have := iK'.out; have := hlen.out; omega)); (focus (simp; omega)); intro v' w2 ho hg hnil; obtain ⟨g', cap', rfl⟩ := Joins.ownsRow_form ho (by omega); have hM2 := Lib.hid (RdMem.grown (w := w) (A := A) (m := m) (c := c) (p := false) (by with_reducible (repeat (first | exact hM1.out | refine RdMem.alloc ?_ _ | refine RdMem.setP (p := true) ?_ _ | refine RdMem.setHigh ?_ (by simp; omega) _))) hg (row_up ⟨_, _, _, _, _, iR1.out⟩)); obtain ⟨⟨r0', r1', r2'⟩, ⟨f0', f1', f2'⟩, ⟨t0', t1', t2'⟩, ⟨g0', g1', g2'⟩⟩ := hM2.out.facts; have ho' := Lib.hid ho; clear ho hg hnil))
              go_roundw
              case rel => exact ⟨k + mm, d - 1, ks ++ [(14, 0)], false, _, _, _, by go_num, ⟨hM2.out.setK _ _ _, by rw [kc_append, List.length_append]; exact ownsRow_setCell_below ho'.out (by simp) _, by have := iL'.out; have := hlens.out.1; simp; omega, by have := hlens.out.1.2; have := hlr.out; have := hlen.out; omega, by have := iF'.out; have := hlens.out.1; omega, hE.out⟩⟩
              case measure => have := hlens.out.1; simp [intOf]; omega
            · have q1 : (kk != 14) = true := by simp [h14]
              have hE := Lib.hid (rdI_step iS'.out hxr iF'.out (kk := 15) (ch := 0) (mm := mm) (p' := true) (by rw [hkS.out]; simp [h14]) (by simp [pNext]))
              clear iS' hkS
              clear h14
              go_wp2_with (first | (go_at_call 19; refine (hcall.out _ (Below.alloc (Below.refl _ wr) (Nat.le_refl _) _)).mono ?_; rintro e w1 ⟨rfl, hb'⟩; have hBq := ((Below.refl wr.heap.size wr).alloc (Nat.le_refl _) _).trans (hb'.mono (by simp)); have hM1 := Lib.hid (hM'.out.kept (hBq.mono iZ)); have iR1 := Lib.hid (ownsRow_mem iR'.out hBq); obtain ⟨⟨r0, r1, r2⟩, ⟨f0, f1, f2⟩, ⟨t0, t1, t2⟩, ⟨g0, g1, g2⟩⟩ := hM1.out.facts; obtain ⟨⟨kc0, kc1⟩, kf0, kf1⟩ := pair_at hb'; have ktw := pair_twice hb'; have hBk := Lib.hid hBq; have hz1 := hBq.size; have hz2 := hb'.size; simp only [World.size_alloc] at hz2; clear hBq hb') | (at_builtin; refine wpList_append_own _ rfl _ _ 35 rfl (w.heap.size + 2) 43 ki (.agg #[.int .i64 0, .int .i64 0]) 2 16 Tryd.underlying35 hki.out hkz.out hksz.out hkby.out rfl (by omega) (.slice A m c) ks.length (kc ks) rfl ?_ ⟨w1.heap.size, 0, none⟩ 1 1 (kc [(15, 0)]) ?_ (by simp [kc]) ?_ ?_ ?_ ?_ ?_ ?_; (focus (with_reducible (repeat (first | exact iR1.out | refine World.ownsRow.alloc ?_ _ | (refine ownsRow_setCell_other ?_ hne.out _) | (refine ownsRow_setCell_below ?_ (by simp) _))))); (focus (first | rfl | (simp [Act.eval, go_sem]; done))); (focus (show ∀ (j : Nat) (u : Value), [Value.int .i64 15, Value.int .i64 0][j]? = some u → _; with_reducible exact pair_news _ _ _ _ _ (by simp))); (focus (intro u hu; simp [kc] at hu; rcases hu with rfl | rfl <;> rfl)); (focus (have := iL'.out; have := iK'.out; have := hlen.out; unfold maxLen; omega)); (focus (have := iL'.out; have := iK'.out; have := hlen.out; omega)); (focus (simp; omega)); intro v' w2 ho hg hnil; obtain ⟨g', cap', rfl⟩ := Joins.ownsRow_form ho (by omega); have hM2 := Lib.hid (RdMem.grown (w := w) (A := A) (m := m) (c := c) (p := true) (by with_reducible (repeat (first | exact hM1.out | refine RdMem.alloc ?_ _ | refine RdMem.setP (p := true) ?_ _ | refine RdMem.setHigh ?_ (by simp; omega) _))) hg (row_up ⟨_, _, _, _, _, iR1.out⟩)); obtain ⟨⟨r0', r1', r2'⟩, ⟨f0', f1', f2'⟩, ⟨t0', t1', t2'⟩, ⟨g0', g1', g2'⟩⟩ := hM2.out.facts; have ho' := Lib.hid ho; clear ho hg hnil))
              go_roundw
              case rel => exact ⟨k + mm, d - 1, ks ++ [(15, 0)], true, _, _, _, by go_num, ⟨hM2.out.setK _ _ _, by rw [kc_append, List.length_append]; exact ownsRow_setCell_below ho'.out (by simp) _, by have := iL'.out; have := hlens.out.1; simp; omega, by have := hlens.out.1.2; have := hlr.out; have := hlen.out; omega, by have := iF'.out; have := hlens.out.1; omega, hE.out⟩⟩
              case measure => have := hlens.out.1; simp [intOf]; omega
          | false =>
            by_cases h14 : kk = 14
            · subst h14
              have hE := Lib.hid (rdI_step iS'.out hxr iF'.out (kk := 15) (ch := 0) (mm := mm) (p' := false) (by rw [hkS.out]; simp) (by simp [pNext]))
              clear iS' hkS
              go_wp2_with (first | (go_at_call 19; refine (hcall.out _ (Below.alloc (Below.refl _ wr) (Nat.le_refl _) _)).mono ?_; rintro e w1 ⟨rfl, hb'⟩; have hBq := ((Below.refl wr.heap.size wr).alloc (Nat.le_refl _) _).trans (hb'.mono (by simp)); have hM1 := Lib.hid (hM'.out.kept (hBq.mono iZ)); have iR1 := Lib.hid (ownsRow_mem iR'.out hBq); obtain ⟨⟨r0, r1, r2⟩, ⟨f0, f1, f2⟩, ⟨t0, t1, t2⟩, ⟨g0, g1, g2⟩⟩ := hM1.out.facts; obtain ⟨⟨kc0, kc1⟩, kf0, kf1⟩ := pair_at hb'; have ktw := pair_twice hb'; have hBk := Lib.hid hBq; have hz1 := hBq.size; have hz2 := hb'.size; simp only [World.size_alloc] at hz2; clear hBq hb') | (at_builtin; refine wpList_append_own _ rfl _ _ 35 rfl (w.heap.size + 2) 43 ki (.agg #[.int .i64 0, .int .i64 0]) 2 16 Tryd.underlying35 hki.out hkz.out hksz.out hkby.out rfl (by omega) (.slice A m c) ks.length (kc ks) rfl ?_ ⟨w1.heap.size, 0, none⟩ 1 1 (kc [(15, 0)]) ?_ (by simp [kc]) ?_ ?_ ?_ ?_ ?_ ?_; (focus (with_reducible (repeat (first | exact iR1.out | refine World.ownsRow.alloc ?_ _ | (refine ownsRow_setCell_other ?_ hne.out _) | (refine ownsRow_setCell_below ?_ (by simp) _))))); (focus (first | rfl | (simp [Act.eval, go_sem]; done))); (focus (show ∀ (j : Nat) (u : Value), [Value.int .i64 15, Value.int .i64 0][j]? = some u → _; with_reducible exact pair_news _ _ _ _ _ (by simp))); (focus (intro u hu; simp [kc] at hu; rcases hu with rfl | rfl <;> rfl)); (focus (have := iL'.out; have := iK'.out; have := hlen.out; unfold maxLen; omega)); (focus (have := iL'.out; have := iK'.out; have := hlen.out; omega)); (focus (simp; omega)); intro v' w2 ho hg hnil; obtain ⟨g', cap', rfl⟩ := Joins.ownsRow_form ho (by omega); have hM2 := Lib.hid (RdMem.grown (w := w) (A := A) (m := m) (c := c) (p := false) (by with_reducible (repeat (first | exact hM1.out | refine RdMem.alloc ?_ _ | refine RdMem.setP (p := false) ?_ _ | refine RdMem.setHigh ?_ (by simp; omega) _))) hg (row_up ⟨_, _, _, _, _, iR1.out⟩)); obtain ⟨⟨r0', r1', r2'⟩, ⟨f0', f1', f2'⟩, ⟨t0', t1', t2'⟩, ⟨g0', g1', g2'⟩⟩ := hM2.out.facts; have ho' := Lib.hid ho; clear ho hg hnil))
              go_roundw
              case rel => exact ⟨k + mm, d - 1, ks ++ [(15, 0)], false, _, _, _, by go_num, ⟨hM2.out.setK _ _ _, by rw [kc_append, List.length_append]; exact ownsRow_setCell_below ho'.out (by simp) _, by have := iL'.out; have := hlens.out.1; simp; omega, by have := hlens.out.1.2; have := hlr.out; have := hlen.out; omega, by have := iF'.out; have := hlens.out.1; omega, hE.out⟩⟩
              case measure => have := hlens.out.1; simp [intOf]; omega
            · have q1 : (kk == 14) = false := by simp [h14]
              by_cases h13 : kk = 13
              · subst h13
                have hE := Lib.hid (rdI_step iS'.out hxr iF'.out (kk := 13) (ch := 0) (mm := mm) (p' := true) (by rw [hkS.out]; simp) (by simp [pNext]))
                clear iS' hkS
                clear h14
                go_wp2_with (first | (go_at_call 19; refine (hcall.out _ (Below.alloc (Below.refl _ wr) (Nat.le_refl _) _)).mono ?_; rintro e w1 ⟨rfl, hb'⟩; have hBq := ((Below.refl wr.heap.size wr).alloc (Nat.le_refl _) _).trans (hb'.mono (by simp)); have hM1 := Lib.hid (hM'.out.kept (hBq.mono iZ)); have iR1 := Lib.hid (ownsRow_mem iR'.out hBq); obtain ⟨⟨r0, r1, r2⟩, ⟨f0, f1, f2⟩, ⟨t0, t1, t2⟩, ⟨g0, g1, g2⟩⟩ := hM1.out.facts; obtain ⟨⟨kc0, kc1⟩, kf0, kf1⟩ := pair_at hb'; have ktw := pair_twice hb'; have hBk := Lib.hid hBq; have hz1 := hBq.size; have hz2 := hb'.size; simp only [World.size_alloc] at hz2; clear hBq hb') | (at_builtin; refine wpList_append_own _ rfl _ _ 35 rfl (w.heap.size + 2) 43 ki (.agg #[.int .i64 0, .int .i64 0]) 2 16 Tryd.underlying35 hki.out hkz.out hksz.out hkby.out rfl (by omega) (.slice A m c) ks.length (kc ks) rfl ?_ ⟨w1.heap.size, 0, none⟩ 1 1 (kc [(13, 0)]) ?_ (by simp [kc]) ?_ ?_ ?_ ?_ ?_ ?_; (focus (with_reducible (repeat (first | exact iR1.out | refine World.ownsRow.alloc ?_ _ | (refine ownsRow_setCell_other ?_ hne.out _) | (refine ownsRow_setCell_below ?_ (by simp) _))))); (focus (first | rfl | (simp [Act.eval, go_sem]; done))); (focus (show ∀ (j : Nat) (u : Value), [Value.int .i64 13, Value.int .i64 0][j]? = some u → _; with_reducible exact pair_news _ _ _ _ _ (by simp))); (focus (intro u hu; simp [kc] at hu; rcases hu with rfl | rfl <;> rfl)); (focus (have := iL'.out; have := iK'.out; have := hlen.out; unfold maxLen; omega)); (focus (have := iL'.out; have := iK'.out; have := hlen.out; omega)); (focus (simp; omega)); intro v' w2 ho hg hnil; obtain ⟨g', cap', rfl⟩ := Joins.ownsRow_form ho (by omega); have hM2 := Lib.hid (RdMem.grown (w := w) (A := A) (m := m) (c := c) (p := true) (by with_reducible (repeat (first | exact hM1.out | refine RdMem.alloc ?_ _ | refine RdMem.setP (p := false) ?_ _ | refine RdMem.setHigh ?_ (by simp; omega) _))) hg (row_up ⟨_, _, _, _, _, iR1.out⟩)); obtain ⟨⟨r0', r1', r2'⟩, ⟨f0', f1', f2'⟩, ⟨t0', t1', t2'⟩, ⟨g0', g1', g2'⟩⟩ := hM2.out.facts; have ho' := Lib.hid ho; clear ho hg hnil))
                go_roundw
                case rel => exact ⟨k + mm, d - 1, ks ++ [(13, 0)], true, _, _, _, by go_num, ⟨hM2.out.setK _ _ _, by rw [kc_append, List.length_append]; exact ownsRow_setCell_below ho'.out (by simp) _, by have := iL'.out; have := hlens.out.1; simp; omega, by have := hlens.out.1.2; have := hlr.out; have := hlen.out; omega, by have := iF'.out; have := hlens.out.1; omega, hE.out⟩⟩
                case measure => have := hlens.out.1; simp [intOf]; omega
              · have q2 : (kk == 13) = false := by simp [h13]
                have hE := Lib.hid (rdI_step iS'.out hxr iF'.out (kk := kk) (ch := 0) (mm := mm) (p' := false) (by rw [hkS.out]; simp [h14]) (by simp [pNext, h13, h14]))
                clear iS' hkS
                clear h14 h13
                go_wp2_with (first | (go_at_call 19; refine (hcall.out _ (Below.alloc (Below.refl _ wr) (Nat.le_refl _) _)).mono ?_; rintro e w1 ⟨rfl, hb'⟩; have hBq := ((Below.refl wr.heap.size wr).alloc (Nat.le_refl _) _).trans (hb'.mono (by simp)); have hM1 := Lib.hid (hM'.out.kept (hBq.mono iZ)); have iR1 := Lib.hid (ownsRow_mem iR'.out hBq); obtain ⟨⟨r0, r1, r2⟩, ⟨f0, f1, f2⟩, ⟨t0, t1, t2⟩, ⟨g0, g1, g2⟩⟩ := hM1.out.facts; obtain ⟨⟨kc0, kc1⟩, kf0, kf1⟩ := pair_at hb'; have ktw := pair_twice hb'; have hBk := Lib.hid hBq; have hz1 := hBq.size; have hz2 := hb'.size; simp only [World.size_alloc] at hz2; clear hBq hb') | (at_builtin; refine wpList_append_own _ rfl _ _ 35 rfl (w.heap.size + 2) 43 ki (.agg #[.int .i64 0, .int .i64 0]) 2 16 Tryd.underlying35 hki.out hkz.out hksz.out hkby.out rfl (by omega) (.slice A m c) ks.length (kc ks) rfl ?_ ⟨w1.heap.size, 0, none⟩ 1 1 (kc [(kk, 0)]) ?_ (by simp [kc]) ?_ ?_ ?_ ?_ ?_ ?_; (focus (with_reducible (repeat (first | exact iR1.out | refine World.ownsRow.alloc ?_ _ | (refine ownsRow_setCell_other ?_ hne.out _) | (refine ownsRow_setCell_below ?_ (by simp) _))))); (focus (first | rfl | (simp [Act.eval, go_sem]; done))); (focus (show ∀ (j : Nat) (u : Value), [Value.int .i64 kk, Value.int .i64 0][j]? = some u → _; with_reducible exact pair_news _ _ _ _ _ (by simp))); (focus (intro u hu; simp [kc] at hu; rcases hu with rfl | rfl <;> rfl)); (focus (have := iL'.out; have := iK'.out; have := hlen.out; unfold maxLen; omega)); (focus (have := iL'.out; have := iK'.out; have := hlen.out; omega)); (focus (simp; omega)); intro v' w2 ho hg hnil; obtain ⟨g', cap', rfl⟩ := Joins.ownsRow_form ho (by omega); have hM2 := Lib.hid (RdMem.grown (w := w) (A := A) (m := m) (c := c) (p := false) (by with_reducible (repeat (first | exact hM1.out | refine RdMem.alloc ?_ _ | refine RdMem.setP (p := false) ?_ _ | refine RdMem.setHigh ?_ (by simp; omega) _))) hg (row_up ⟨_, _, _, _, _, iR1.out⟩)); obtain ⟨⟨r0', r1', r2'⟩, ⟨f0', f1', f2'⟩, ⟨t0', t1', t2'⟩, ⟨g0', g1', g2'⟩⟩ := hM2.out.facts; have ho' := Lib.hid ho; clear ho hg hnil))
                go_roundw
                case rel => exact ⟨k + mm, d - 1, ks ++ [(kk, 0)], false, _, _, _, by go_num, ⟨hM2.out.setK _ _ _, by rw [kc_append, List.length_append]; exact ownsRow_setCell_below ho'.out (by simp) _, by have := iL'.out; have := hlens.out.1; simp; omega, by have := hlens.out.1.2; have := hlr.out; have := hlen.out; omega, by have := iF'.out; have := hlens.out.1; omega, hE.out⟩⟩
                case measure => have := hlens.out.1; simp [intOf]; omega
        · obtain ⟨rfl, rfl⟩ : er = 7 ∧ kk = 0 := hlens.out.2.elim (fun h => absurd h he) id
          clear he
          cases p with
          | true =>
            have hE := Lib.hid (rdI_held iS'.out hxr iF'.out (by rw [hkS.out]; simp))
            clear iS' hkS
            go_wp2_with (first | (go_at_call 19; refine (hcall.out _ (Below.alloc (Below.refl _ wr) (Nat.le_refl _) _)).mono ?_; rintro e w1 ⟨rfl, hb'⟩; have hBq := ((Below.refl wr.heap.size wr).alloc (Nat.le_refl _) _).trans (hb'.mono (by simp)); have hM1 := Lib.hid (hM'.out.kept (hBq.mono iZ)); have iR1 := Lib.hid (ownsRow_mem iR'.out hBq); obtain ⟨⟨r0, r1, r2⟩, ⟨f0, f1, f2⟩, ⟨t0, t1, t2⟩, ⟨g0, g1, g2⟩⟩ := hM1.out.facts; obtain ⟨⟨kc0, kc1⟩, kf0, kf1⟩ := pair_at hb'; have ktw := pair_twice hb'; have hBk := Lib.hid hBq; have hz1 := hBq.size; have hz2 := hb'.size; simp only [World.size_alloc] at hz2; clear hBq hb') | (at_builtin; refine wpList_append_rd rfl _ _ 22 rfl (w.heap.size + 2) 5 Tryd.underlying22 info_u8 (.slice (some ⟨w1.heap.size, 0, none⟩) 0 0) 0 [] rfl ?_ (some ⟨b, off + k, none⟩) (n - k) (c0 - k) (x :: r) rfl ?_ (by omega) (by simp; omega) ?_; (focus (exact owns_empty' _ _ _ _ (by simp) (by simp; omega))); (focus (exact hdr'.out.below ((Below.alloc (by with_reducible (repeat (first | exact hBk.out | refine Below.setCell ?_ (by simp) _)))) (by simp; omega) _))); intro v' w2 ho hg hnil; rw [Nat.zero_add] at ho; obtain ⟨g', cap', rfl⟩ := Joins.ownsRow_form ho (by omega); have hM2 := Lib.hid (RdMem.grown (w := w) (A := A) (m := m) (c := c) (p := true) (by with_reducible (repeat (first | exact hM1.out | refine RdMem.alloc ?_ _ | refine RdMem.setHigh ?_ (by simp; omega) _))) hg (by intro q hq; simp [Value.ownBlock] at hq; omega)); obtain ⟨⟨r0', r1', r2'⟩, ⟨f0', f1', f2'⟩, ⟨t0', t1', t2'⟩, ⟨g0', g1', g2'⟩⟩ := hM2.out.facts; have ho' := Lib.hid ho; have hg' := Lib.hid hg; clear ho hg hnil))
            refine bodyPost_ret (v := .agg #[.slice A m c, .slice (some ⟨g', 0, none⟩) (n - k) cap', .bool true]) ?_ rfl ?_
            · simp [results, Tryd.results7, go_sem, r0', r1', r2', f0', f1', f2', t0', t1', t2', g0', g1', g2']
            · rw [hE.out]
              have hr1 := ownsRow_fresh iR1.out
              have hr2 : w2.ownsRow (w.heap.size + 2) 43 2 (.slice A m c) ks.length (kc ks) := World.ownsRow.kept (by with_reducible (repeat (first | exact iR1.out | refine World.ownsRow.alloc ?_ _ | (refine ownsRow_setCell_other ?_ hne.out _)))) hg'.out (Or.inr hr1)
              refine ⟨.slice A m c, some ⟨g', 0, none⟩, cap', by rw [← hlr.out], ?_, ?_, ?_⟩
              · exact Joins.ownsRow_le (base := w.heap.size + 2) (by with_reducible (repeat (first | exact hr2 | refine ownsRow_setCell_below ?_ (by simp) _))) (by omega)
              · refine owns_rd' (B := w.heap.size + 2) (e := 5) ?_
                have ho2 := ho'.out
                rw [List.nil_append, ← hlr.out] at ho2
                with_reducible (repeat (first | exact ho2 | refine ownsRow_setCell_below ?_ (by simp) _))
              · have hb2 := hM2.out.below
                with_reducible (repeat (first | exact hb2 | refine Below.setCell ?_ (by simp) _))
          | false =>
            have hE := Lib.hid (rdI_held iS'.out hxr iF'.out (by rw [hkS.out]; simp))
            clear iS' hkS
            go_wp2_with (first | (go_at_call 19; refine (hcall.out _ (Below.alloc (Below.refl _ wr) (Nat.le_refl _) _)).mono ?_; rintro e w1 ⟨rfl, hb'⟩; have hBq := ((Below.refl wr.heap.size wr).alloc (Nat.le_refl _) _).trans (hb'.mono (by simp)); have hM1 := Lib.hid (hM'.out.kept (hBq.mono iZ)); have iR1 := Lib.hid (ownsRow_mem iR'.out hBq); obtain ⟨⟨r0, r1, r2⟩, ⟨f0, f1, f2⟩, ⟨t0, t1, t2⟩, ⟨g0, g1, g2⟩⟩ := hM1.out.facts; obtain ⟨⟨kc0, kc1⟩, kf0, kf1⟩ := pair_at hb'; have ktw := pair_twice hb'; have hBk := Lib.hid hBq; have hz1 := hBq.size; have hz2 := hb'.size; simp only [World.size_alloc] at hz2; clear hBq hb') | (at_builtin; refine wpList_append_rd rfl _ _ 22 rfl (w.heap.size + 2) 5 Tryd.underlying22 info_u8 (.slice (some ⟨w1.heap.size, 0, none⟩) 0 0) 0 [] rfl ?_ (some ⟨b, off + k, none⟩) (n - k) (c0 - k) (x :: r) rfl ?_ (by omega) (by simp; omega) ?_; (focus (exact owns_empty' _ _ _ _ (by simp) (by simp; omega))); (focus (exact hdr'.out.below ((Below.alloc (by with_reducible (repeat (first | exact hBk.out | refine Below.setCell ?_ (by simp) _)))) (by simp; omega) _))); intro v' w2 ho hg hnil; rw [Nat.zero_add] at ho; obtain ⟨g', cap', rfl⟩ := Joins.ownsRow_form ho (by omega); have hM2 := Lib.hid (RdMem.grown (w := w) (A := A) (m := m) (c := c) (p := false) (by with_reducible (repeat (first | exact hM1.out | refine RdMem.alloc ?_ _ | refine RdMem.setHigh ?_ (by simp; omega) _))) hg (by intro q hq; simp [Value.ownBlock] at hq; omega)); obtain ⟨⟨r0', r1', r2'⟩, ⟨f0', f1', f2'⟩, ⟨t0', t1', t2'⟩, ⟨g0', g1', g2'⟩⟩ := hM2.out.facts; have ho' := Lib.hid ho; have hg' := Lib.hid hg; clear ho hg hnil))
            refine bodyPost_ret (v := .agg #[.slice A m c, .slice (some ⟨g', 0, none⟩) (n - k) cap', .bool false]) ?_ rfl ?_
            · simp [results, Tryd.results7, go_sem, r0', r1', r2', f0', f1', f2', t0', t1', t2', g0', g1', g2']
            · rw [hE.out]
              have hr1 := ownsRow_fresh iR1.out
              have hr2 : w2.ownsRow (w.heap.size + 2) 43 2 (.slice A m c) ks.length (kc ks) := World.ownsRow.kept (by with_reducible (repeat (first | exact iR1.out | refine World.ownsRow.alloc ?_ _ | (refine ownsRow_setCell_other ?_ hne.out _)))) hg'.out (Or.inr hr1)
              refine ⟨.slice A m c, some ⟨g', 0, none⟩, cap', by rw [← hlr.out], ?_, ?_, ?_⟩
              · exact Joins.ownsRow_le (base := w.heap.size + 2) (by with_reducible (repeat (first | exact hr2 | refine ownsRow_setCell_below ?_ (by simp) _))) (by omega)
              · refine owns_rd' (B := w.heap.size + 2) (e := 5) ?_
                have ho2 := ho'.out
                rw [List.nil_append, ← hlr.out] at ho2
                with_reducible (repeat (first | exact ho2 | refine ownsRow_setCell_below ?_ (by simp) _))
              · have hb2 := hM2.out.below
                with_reducible (repeat (first | exact hb2 | refine Below.setCell ?_ (by simp) _))
      · skip
        have hcall := Lib.hid fun W hW => rNext_any W b (off + k) (n - k) (c0 - k) (x :: r) (hdr.below hW)
        have hlens := Lib.hid (uNext_len x r)
        have hkS : Hid (∀ p, kStep x r p = ((if p = true ∧ (kOf (if (uNext (x :: r)).2.2 = 8 then 65533 else (uNext (x :: r)).1)).1 ≠ 0 then (15, 0) else kOf (if (uNext (x :: r)).2.2 = 8 then 65533 else (uNext (x :: r)).1)), (uNext (x :: r)).2.1, if (uNext (x :: r)).2.2 = 8 then 0 else (uNext (x :: r)).2.2)) := Lib.hid fun p => by rw [kStep, if_neg hx]
        have hdr' := Lib.hid hdr
        have hx27 : ((x.toNat : Int) == 27) = false := by simp; omega
        generalize x.toNat = X at hx0 hx8 hx27
        clear hdr hrd hx
        unfold U3 at hcall
        generalize uNext (x :: r) = P at *
        obtain ⟨cc, mm, er⟩ := P
        simp only at hcall hlens hkS
        have hkm : (k : Int) + mm ≤ 1000000 := by have := hlens.out.1.2; have := hlr.out; omega
        rcases hlens.out.2.1 with rfl | rfl | rfl
        · have hof := Lib.hid fun W => rOf_any W (cc : Int)
          have hkk := kOf_kind (cc : Int)
          rw [if_neg (by omega), if_neg (by omega)] at hkS
          generalize kOf (cc : Int) = Q at *
          obtain ⟨kf, ch⟩ := Q
          unfold Key2 at hof
          simp only at hof hkS hkk
          obtain ⟨h13, h14⟩ := hkk
          have q13 : (kf == 13) = false := by simp [h13]
          have q14 : (kf == 14) = false := by simp [h14]
          cases p with
          | true =>
            by_cases h0 : kf = 0
            · subst h0
              have hE := Lib.hid (rdI_step iS'.out hxr iF'.out (kk := 0) (ch := ch) (mm := mm) (p' := true) (by rw [hkS.out]; simp) (by simp [pNext]))
              clear iS' hkS
              clear h13 h14 q13 q14
              go_wp2_with (first | (go_at_call 20; refine (hcall.out _ (Below.alloc (Below.refl _ wr) (Nat.le_refl _) _)).mono ?_; rintro e wn ⟨rfl, mq, hwn⟩; have hbn := below_drewN (Below.refl (wr.alloc (.cells #[.int .i64 0, .int .i64 0] 43)).heap.size (wr.alloc (.cells #[.int .i64 0, .int .i64 0] 43))) mq; rw [← hwn] at hbn; clear hwn) | (go_at_call 21; refine (hof.out _).mono ?_; rintro e w1 ⟨rfl, hb0⟩; have hb' := hbn.trans (hb0.mono hbn.size); have hBq := ((Below.refl wr.heap.size wr).alloc (Nat.le_refl _) _).trans (hb'.mono (by simp)); have hM1 := Lib.hid (hM'.out.kept (hBq.mono iZ)); have iR1 := Lib.hid (ownsRow_mem iR'.out hBq); obtain ⟨⟨r0, r1, r2⟩, ⟨f0, f1, f2⟩, ⟨t0, t1, t2⟩, ⟨g0, g1, g2⟩⟩ := hM1.out.facts; obtain ⟨⟨kc0, kc1⟩, kf0, kf1⟩ := pair_at hb'; have ktw := pair_twice hb'; have hBk := Lib.hid hBq; have hz1 := hBq.size; have hz2 := hb'.size; simp only [World.size_alloc] at hz2; clear hBq hb'; clear hb0 hbn) | (at_builtin; refine wpList_append_own _ rfl _ _ 35 rfl (w.heap.size + 2) 43 ki (.agg #[.int .i64 0, .int .i64 0]) 2 16 Tryd.underlying35 hki.out hkz.out hksz.out hkby.out rfl (by omega) (.slice A m c) ks.length (kc ks) rfl ?_ ⟨w1.heap.size, 0, none⟩ 1 1 (kc [(0, ch)]) ?_ (by simp [kc]) ?_ ?_ ?_ ?_ ?_ ?_; (focus (with_reducible (repeat (first | exact iR1.out | refine World.ownsRow.alloc ?_ _ | (refine ownsRow_setCell_other ?_ hne.out _) | (refine ownsRow_setCell_below ?_ (by simp) _))))); (focus (first | rfl | (simp [Act.eval, go_sem]; done))); (focus (show ∀ (j : Nat) (u : Value), [Value.int .i64 0, Value.int .i64 ch][j]? = some u → _; with_reducible exact pair_news _ _ _ _ _ (by simp))); (focus (intro u hu; simp [kc] at hu; rcases hu with rfl | rfl <;> rfl)); (focus (have := iL'.out; have := iK'.out; have := hlen.out; unfold maxLen; omega)); (focus (have := iL'.out; have := iK'.out; have := hlen.out; omega)); (focus (simp; omega)); intro v' w2 ho hg hnil; obtain ⟨g', cap', rfl⟩ := Joins.ownsRow_form ho (by omega); have hM2 := Lib.hid (RdMem.grown (w := w) (A := A) (m := m) (c := c) (p := true) (by with_reducible (repeat (first | exact hM1.out | refine RdMem.alloc ?_ _ | refine RdMem.setP (p := true) ?_ _ | refine RdMem.setHigh ?_ (by simp; omega) _))) hg (row_up ⟨_, _, _, _, _, iR1.out⟩)); obtain ⟨⟨r0', r1', r2'⟩, ⟨f0', f1', f2'⟩, ⟨t0', t1', t2'⟩, ⟨g0', g1', g2'⟩⟩ := hM2.out.facts; have ho' := Lib.hid ho; clear ho hg hnil))
              go_roundw
              case rel => exact ⟨k + mm, d - 1, ks ++ [(0, ch)], true, _, _, _, by go_num, ⟨hM2.out.setK _ _ _, by rw [kc_append, List.length_append]; exact ownsRow_setCell_below ho'.out (by simp) _, by have := iL'.out; have := hlens.out.1; simp; omega, by have := hlens.out.1.2; have := hlr.out; have := hlen.out; omega, by have := iF'.out; have := hlens.out.1; omega, hE.out⟩⟩
              case measure => have := hlens.out.1; simp [intOf]; omega
            · have q0 : (kf != 0) = true := by simp [h0]
              have hE := Lib.hid (rdI_step iS'.out hxr iF'.out (kk := 15) (ch := 0) (mm := mm) (p' := true) (by rw [hkS.out]; simp [h0]) (by simp [pNext]))
              clear iS' hkS
              clear h0 h13 h14
              go_wp2_with (first | (go_at_call 20; refine (hcall.out _ (Below.alloc (Below.refl _ wr) (Nat.le_refl _) _)).mono ?_; rintro e wn ⟨rfl, mq, hwn⟩; have hbn := below_drewN (Below.refl (wr.alloc (.cells #[.int .i64 0, .int .i64 0] 43)).heap.size (wr.alloc (.cells #[.int .i64 0, .int .i64 0] 43))) mq; rw [← hwn] at hbn; clear hwn) | (go_at_call 21; refine (hof.out _).mono ?_; rintro e w1 ⟨rfl, hb0⟩; have hb' := hbn.trans (hb0.mono hbn.size); have hBq := ((Below.refl wr.heap.size wr).alloc (Nat.le_refl _) _).trans (hb'.mono (by simp)); have hM1 := Lib.hid (hM'.out.kept (hBq.mono iZ)); have iR1 := Lib.hid (ownsRow_mem iR'.out hBq); obtain ⟨⟨r0, r1, r2⟩, ⟨f0, f1, f2⟩, ⟨t0, t1, t2⟩, ⟨g0, g1, g2⟩⟩ := hM1.out.facts; obtain ⟨⟨kc0, kc1⟩, kf0, kf1⟩ := pair_at hb'; have ktw := pair_twice hb'; have hBk := Lib.hid hBq; have hz1 := hBq.size; have hz2 := hb'.size; simp only [World.size_alloc] at hz2; clear hBq hb'; clear hb0 hbn) | (at_builtin; refine wpList_append_own _ rfl _ _ 35 rfl (w.heap.size + 2) 43 ki (.agg #[.int .i64 0, .int .i64 0]) 2 16 Tryd.underlying35 hki.out hkz.out hksz.out hkby.out rfl (by omega) (.slice A m c) ks.length (kc ks) rfl ?_ ⟨w1.heap.size, 0, none⟩ 1 1 (kc [(15, 0)]) ?_ (by simp [kc]) ?_ ?_ ?_ ?_ ?_ ?_; (focus (with_reducible (repeat (first | exact iR1.out | refine World.ownsRow.alloc ?_ _ | (refine ownsRow_setCell_other ?_ hne.out _) | (refine ownsRow_setCell_below ?_ (by simp) _))))); (focus (first | rfl | (simp [Act.eval, go_sem]; done))); (focus (show ∀ (j : Nat) (u : Value), [Value.int .i64 15, Value.int .i64 0][j]? = some u → _; with_reducible exact pair_news _ _ _ _ _ (by simp))); (focus (intro u hu; simp [kc] at hu; rcases hu with rfl | rfl <;> rfl)); (focus (have := iL'.out; have := iK'.out; have := hlen.out; unfold maxLen; omega)); (focus (have := iL'.out; have := iK'.out; have := hlen.out; omega)); (focus (simp; omega)); intro v' w2 ho hg hnil; obtain ⟨g', cap', rfl⟩ := Joins.ownsRow_form ho (by omega); have hM2 := Lib.hid (RdMem.grown (w := w) (A := A) (m := m) (c := c) (p := true) (by with_reducible (repeat (first | exact hM1.out | refine RdMem.alloc ?_ _ | refine RdMem.setP (p := true) ?_ _ | refine RdMem.setHigh ?_ (by simp; omega) _))) hg (row_up ⟨_, _, _, _, _, iR1.out⟩)); obtain ⟨⟨r0', r1', r2'⟩, ⟨f0', f1', f2'⟩, ⟨t0', t1', t2'⟩, ⟨g0', g1', g2'⟩⟩ := hM2.out.facts; have ho' := Lib.hid ho; clear ho hg hnil))
              go_roundw
              case rel => exact ⟨k + mm, d - 1, ks ++ [(15, 0)], true, _, _, _, by go_num, ⟨hM2.out.setK _ _ _, by rw [kc_append, List.length_append]; exact ownsRow_setCell_below ho'.out (by simp) _, by have := iL'.out; have := hlens.out.1; simp; omega, by have := hlens.out.1.2; have := hlr.out; have := hlen.out; omega, by have := iF'.out; have := hlens.out.1; omega, hE.out⟩⟩
              case measure => have := hlens.out.1; simp [intOf]; omega
          | false =>
            have hE := Lib.hid (rdI_step iS'.out hxr iF'.out (kk := kf) (ch := ch) (mm := mm) (p' := false) (by rw [hkS.out]; simp) (by simp [pNext, h13, h14]))
            clear iS' hkS
            clear h13 h14
            go_wp2_with (first | (go_at_call 20; refine (hcall.out _ (Below.alloc (Below.refl _ wr) (Nat.le_refl _) _)).mono ?_; rintro e wn ⟨rfl, mq, hwn⟩; have hbn := below_drewN (Below.refl (wr.alloc (.cells #[.int .i64 0, .int .i64 0] 43)).heap.size (wr.alloc (.cells #[.int .i64 0, .int .i64 0] 43))) mq; rw [← hwn] at hbn; clear hwn) | (go_at_call 21; refine (hof.out _).mono ?_; rintro e w1 ⟨rfl, hb0⟩; have hb' := hbn.trans (hb0.mono hbn.size); have hBq := ((Below.refl wr.heap.size wr).alloc (Nat.le_refl _) _).trans (hb'.mono (by simp)); have hM1 := Lib.hid (hM'.out.kept (hBq.mono iZ)); have iR1 := Lib.hid (ownsRow_mem iR'.out hBq); obtain ⟨⟨r0, r1, r2⟩, ⟨f0, f1, f2⟩, ⟨t0, t1, t2⟩, ⟨g0, g1, g2⟩⟩ := hM1.out.facts; obtain ⟨⟨kc0, kc1⟩, kf0, kf1⟩ := pair_at hb'; have ktw := pair_twice hb'; have hBk := Lib.hid hBq; have hz1 := hBq.size; have hz2 := hb'.size; simp only [World.size_alloc] at hz2; clear hBq hb'; clear hb0 hbn) | (at_builtin; refine wpList_append_own _ rfl _ _ 35 rfl (w.heap.size + 2) 43 ki (.agg #[.int .i64 0, .int .i64 0]) 2 16 Tryd.underlying35 hki.out hkz.out hksz.out hkby.out rfl (by omega) (.slice A m c) ks.length (kc ks) rfl ?_ ⟨w1.heap.size, 0, none⟩ 1 1 (kc [(kf, ch)]) ?_ (by simp [kc]) ?_ ?_ ?_ ?_ ?_ ?_; (focus (with_reducible (repeat (first | exact iR1.out | refine World.ownsRow.alloc ?_ _ | (refine ownsRow_setCell_other ?_ hne.out _) | (refine ownsRow_setCell_below ?_ (by simp) _))))); (focus (first | rfl | (simp [Act.eval, go_sem]; done))); (focus (show ∀ (j : Nat) (u : Value), [Value.int .i64 kf, Value.int .i64 ch][j]? = some u → _; with_reducible exact pair_news _ _ _ _ _ (by simp))); (focus (intro u hu; simp [kc] at hu; rcases hu with rfl | rfl <;> rfl)); (focus (have := iL'.out; have := iK'.out; have := hlen.out; unfold maxLen; omega)); (focus (have := iL'.out; have := iK'.out; have := hlen.out; omega)); (focus (simp; omega)); intro v' w2 ho hg hnil; obtain ⟨g', cap', rfl⟩ := Joins.ownsRow_form ho (by omega); have hM2 := Lib.hid (RdMem.grown (w := w) (A := A) (m := m) (c := c) (p := false) (by with_reducible (repeat (first | exact hM1.out | refine RdMem.alloc ?_ _ | refine RdMem.setP (p := false) ?_ _ | refine RdMem.setHigh ?_ (by simp; omega) _))) hg (row_up ⟨_, _, _, _, _, iR1.out⟩)); obtain ⟨⟨r0', r1', r2'⟩, ⟨f0', f1', f2'⟩, ⟨t0', t1', t2'⟩, ⟨g0', g1', g2'⟩⟩ := hM2.out.facts; have ho' := Lib.hid ho; clear ho hg hnil))
            go_roundw
            case rel => exact ⟨k + mm, d - 1, ks ++ [(kf, ch)], false, _, _, _, by go_num, ⟨hM2.out.setK _ _ _, by rw [kc_append, List.length_append]; exact ownsRow_setCell_below ho'.out (by simp) _, by have := iL'.out; have := hlens.out.1; simp; omega, by have := hlens.out.1.2; have := hlr.out; have := hlen.out; omega, by have := iF'.out; have := hlens.out.1; omega, hE.out⟩⟩
            case measure => have := hlens.out.1; simp [intOf]; omega
        · have hof := Lib.hid fun W => rOf_any W 0
          obtain rfl := hlens.out.2.2 rfl
          rw [kOf_0] at hof
          have hkS2 : Hid (∀ p, (kStep x r p).2.2 = 7) := Lib.hid fun p => by rw [hkS.out]; simp
          clear hkS
          have hkS := hkS2
          clear hkS2
          unfold Key2 at hof
          simp only at hof
          cases p with
          | true =>
            have hE := Lib.hid (rdI_held iS'.out hxr iF'.out (by rw [hkS.out]; simp))
            clear iS' hkS
            go_wp2_with (first | (go_at_call 20; refine (hcall.out _ (Below.alloc (Below.refl _ wr) (Nat.le_refl _) _)).mono ?_; rintro e wn ⟨rfl, mq, hwn⟩; have hbn := below_drewN (Below.refl (wr.alloc (.cells #[.int .i64 0, .int .i64 0] 43)).heap.size (wr.alloc (.cells #[.int .i64 0, .int .i64 0] 43))) mq; rw [← hwn] at hbn; clear hwn) | (go_at_call 21; refine (hof.out _).mono ?_; rintro e w1 ⟨rfl, hb0⟩; have hb' := hbn.trans (hb0.mono hbn.size); have hBq := ((Below.refl wr.heap.size wr).alloc (Nat.le_refl _) _).trans (hb'.mono (by simp)); have hM1 := Lib.hid (hM'.out.kept (hBq.mono iZ)); have iR1 := Lib.hid (ownsRow_mem iR'.out hBq); obtain ⟨⟨r0, r1, r2⟩, ⟨f0, f1, f2⟩, ⟨t0, t1, t2⟩, ⟨g0, g1, g2⟩⟩ := hM1.out.facts; obtain ⟨⟨kc0, kc1⟩, kf0, kf1⟩ := pair_at hb'; have ktw := pair_twice hb'; have hBk := Lib.hid hBq; have hz1 := hBq.size; have hz2 := hb'.size; simp only [World.size_alloc] at hz2; clear hBq hb'; clear hb0 hbn) | (at_builtin; refine wpList_append_rd rfl _ _ 22 rfl (w.heap.size + 2) 5 Tryd.underlying22 info_u8 (.slice (some ⟨w1.heap.size, 0, none⟩) 0 0) 0 [] rfl ?_ (some ⟨b, off + k, none⟩) (n - k) (c0 - k) (x :: r) rfl ?_ (by omega) (by simp; omega) ?_; (focus (exact owns_empty' _ _ _ _ (by simp) (by simp; omega))); (focus (exact hdr'.out.below ((Below.alloc (by with_reducible (repeat (first | exact hBk.out | refine Below.setCell ?_ (by simp) _)))) (by simp; omega) _))); intro v' w2 ho hg hnil; rw [Nat.zero_add] at ho; obtain ⟨g', cap', rfl⟩ := Joins.ownsRow_form ho (by omega); have hM2 := Lib.hid (RdMem.grown (w := w) (A := A) (m := m) (c := c) (p := true) (by with_reducible (repeat (first | exact hM1.out | refine RdMem.alloc ?_ _ | refine RdMem.setHigh ?_ (by simp; omega) _))) hg (by intro q hq; simp [Value.ownBlock] at hq; omega)); obtain ⟨⟨r0', r1', r2'⟩, ⟨f0', f1', f2'⟩, ⟨t0', t1', t2'⟩, ⟨g0', g1', g2'⟩⟩ := hM2.out.facts; have ho' := Lib.hid ho; have hg' := Lib.hid hg; clear ho hg hnil))
            refine bodyPost_ret (v := .agg #[.slice A m c, .slice (some ⟨g', 0, none⟩) (n - k) cap', .bool true]) ?_ rfl ?_
            · simp [results, Tryd.results7, go_sem, r0', r1', r2', f0', f1', f2', t0', t1', t2', g0', g1', g2']
            · rw [hE.out]
              have hr1 := ownsRow_fresh iR1.out
              have hr2 : w2.ownsRow (w.heap.size + 2) 43 2 (.slice A m c) ks.length (kc ks) := World.ownsRow.kept (by with_reducible (repeat (first | exact iR1.out | refine World.ownsRow.alloc ?_ _ | (refine ownsRow_setCell_other ?_ hne.out _)))) hg'.out (Or.inr hr1)
              refine ⟨.slice A m c, some ⟨g', 0, none⟩, cap', by rw [← hlr.out], ?_, ?_, ?_⟩
              · exact Joins.ownsRow_le (base := w.heap.size + 2) (by with_reducible (repeat (first | exact hr2 | refine ownsRow_setCell_below ?_ (by simp) _))) (by omega)
              · refine owns_rd' (B := w.heap.size + 2) (e := 5) ?_
                have ho2 := ho'.out
                rw [List.nil_append, ← hlr.out] at ho2
                with_reducible (repeat (first | exact ho2 | refine ownsRow_setCell_below ?_ (by simp) _))
              · have hb2 := hM2.out.below
                with_reducible (repeat (first | exact hb2 | refine Below.setCell ?_ (by simp) _))
          | false =>
            have hE := Lib.hid (rdI_held iS'.out hxr iF'.out (by rw [hkS.out]; simp))
            clear iS' hkS
            go_wp2_with (first | (go_at_call 20; refine (hcall.out _ (Below.alloc (Below.refl _ wr) (Nat.le_refl _) _)).mono ?_; rintro e wn ⟨rfl, mq, hwn⟩; have hbn := below_drewN (Below.refl (wr.alloc (.cells #[.int .i64 0, .int .i64 0] 43)).heap.size (wr.alloc (.cells #[.int .i64 0, .int .i64 0] 43))) mq; rw [← hwn] at hbn; clear hwn) | (go_at_call 21; refine (hof.out _).mono ?_; rintro e w1 ⟨rfl, hb0⟩; have hb' := hbn.trans (hb0.mono hbn.size); have hBq := ((Below.refl wr.heap.size wr).alloc (Nat.le_refl _) _).trans (hb'.mono (by simp)); have hM1 := Lib.hid (hM'.out.kept (hBq.mono iZ)); have iR1 := Lib.hid (ownsRow_mem iR'.out hBq); obtain ⟨⟨r0, r1, r2⟩, ⟨f0, f1, f2⟩, ⟨t0, t1, t2⟩, ⟨g0, g1, g2⟩⟩ := hM1.out.facts; obtain ⟨⟨kc0, kc1⟩, kf0, kf1⟩ := pair_at hb'; have ktw := pair_twice hb'; have hBk := Lib.hid hBq; have hz1 := hBq.size; have hz2 := hb'.size; simp only [World.size_alloc] at hz2; clear hBq hb'; clear hb0 hbn) | (at_builtin; refine wpList_append_rd rfl _ _ 22 rfl (w.heap.size + 2) 5 Tryd.underlying22 info_u8 (.slice (some ⟨w1.heap.size, 0, none⟩) 0 0) 0 [] rfl ?_ (some ⟨b, off + k, none⟩) (n - k) (c0 - k) (x :: r) rfl ?_ (by omega) (by simp; omega) ?_; (focus (exact owns_empty' _ _ _ _ (by simp) (by simp; omega))); (focus (exact hdr'.out.below ((Below.alloc (by with_reducible (repeat (first | exact hBk.out | refine Below.setCell ?_ (by simp) _)))) (by simp; omega) _))); intro v' w2 ho hg hnil; rw [Nat.zero_add] at ho; obtain ⟨g', cap', rfl⟩ := Joins.ownsRow_form ho (by omega); have hM2 := Lib.hid (RdMem.grown (w := w) (A := A) (m := m) (c := c) (p := false) (by with_reducible (repeat (first | exact hM1.out | refine RdMem.alloc ?_ _ | refine RdMem.setHigh ?_ (by simp; omega) _))) hg (by intro q hq; simp [Value.ownBlock] at hq; omega)); obtain ⟨⟨r0', r1', r2'⟩, ⟨f0', f1', f2'⟩, ⟨t0', t1', t2'⟩, ⟨g0', g1', g2'⟩⟩ := hM2.out.facts; have ho' := Lib.hid ho; have hg' := Lib.hid hg; clear ho hg hnil))
            refine bodyPost_ret (v := .agg #[.slice A m c, .slice (some ⟨g', 0, none⟩) (n - k) cap', .bool false]) ?_ rfl ?_
            · simp [results, Tryd.results7, go_sem, r0', r1', r2', f0', f1', f2', t0', t1', t2', g0', g1', g2']
            · rw [hE.out]
              have hr1 := ownsRow_fresh iR1.out
              have hr2 : w2.ownsRow (w.heap.size + 2) 43 2 (.slice A m c) ks.length (kc ks) := World.ownsRow.kept (by with_reducible (repeat (first | exact iR1.out | refine World.ownsRow.alloc ?_ _ | (refine ownsRow_setCell_other ?_ hne.out _)))) hg'.out (Or.inr hr1)
              refine ⟨.slice A m c, some ⟨g', 0, none⟩, cap', by rw [← hlr.out], ?_, ?_, ?_⟩
              · exact Joins.ownsRow_le (base := w.heap.size + 2) (by with_reducible (repeat (first | exact hr2 | refine ownsRow_setCell_below ?_ (by simp) _))) (by omega)
              · refine owns_rd' (B := w.heap.size + 2) (e := 5) ?_
                have ho2 := ho'.out
                rw [List.nil_append, ← hlr.out] at ho2
                with_reducible (repeat (first | exact ho2 | refine ownsRow_setCell_below ?_ (by simp) _))
              · have hb2 := hM2.out.below
                with_reducible (repeat (first | exact hb2 | refine Below.setCell ?_ (by simp) _))
        · have hof := Lib.hid fun W => rOf_any W 65533
          rw [kOf_bad] at hof
          rw [if_pos rfl, if_pos rfl, kOf_bad] at hkS
          unfold Key2 at hof
          simp only at hof
          cases p with
          | true =>
            have hE := Lib.hid (rdI_step iS'.out hxr iF'.out (kk := 0) (ch := 65533) (mm := mm) (p' := true) (by rw [hkS.out]; simp) (by simp [pNext]))
            clear iS' hkS
            go_wp2_with (first | (go_at_call 20; refine (hcall.out _ (Below.alloc (Below.refl _ wr) (Nat.le_refl _) _)).mono ?_; rintro e wn ⟨rfl, mq, hwn⟩; have hbn := below_drewN (Below.refl (wr.alloc (.cells #[.int .i64 0, .int .i64 0] 43)).heap.size (wr.alloc (.cells #[.int .i64 0, .int .i64 0] 43))) mq; rw [← hwn] at hbn; clear hwn) | (go_at_call 21; refine (hof.out _).mono ?_; rintro e w1 ⟨rfl, hb0⟩; have hb' := hbn.trans (hb0.mono hbn.size); have hBq := ((Below.refl wr.heap.size wr).alloc (Nat.le_refl _) _).trans (hb'.mono (by simp)); have hM1 := Lib.hid (hM'.out.kept (hBq.mono iZ)); have iR1 := Lib.hid (ownsRow_mem iR'.out hBq); obtain ⟨⟨r0, r1, r2⟩, ⟨f0, f1, f2⟩, ⟨t0, t1, t2⟩, ⟨g0, g1, g2⟩⟩ := hM1.out.facts; obtain ⟨⟨kc0, kc1⟩, kf0, kf1⟩ := pair_at hb'; have ktw := pair_twice hb'; have hBk := Lib.hid hBq; have hz1 := hBq.size; have hz2 := hb'.size; simp only [World.size_alloc] at hz2; clear hBq hb'; clear hb0 hbn) | (at_builtin; refine wpList_append_own _ rfl _ _ 35 rfl (w.heap.size + 2) 43 ki (.agg #[.int .i64 0, .int .i64 0]) 2 16 Tryd.underlying35 hki.out hkz.out hksz.out hkby.out rfl (by omega) (.slice A m c) ks.length (kc ks) rfl ?_ ⟨w1.heap.size, 0, none⟩ 1 1 (kc [(0, 65533)]) ?_ (by simp [kc]) ?_ ?_ ?_ ?_ ?_ ?_; (focus (with_reducible (repeat (first | exact iR1.out | refine World.ownsRow.alloc ?_ _ | (refine ownsRow_setCell_other ?_ hne.out _) | (refine ownsRow_setCell_below ?_ (by simp) _))))); (focus (first | rfl | (simp [Act.eval, go_sem]; done))); (focus (show ∀ (j : Nat) (u : Value), [Value.int .i64 0, Value.int .i64 65533][j]? = some u → _; with_reducible exact pair_news _ _ _ _ _ (by simp))); (focus (intro u hu; simp [kc] at hu; rcases hu with rfl | rfl <;> rfl)); (focus (have := iL'.out; have := iK'.out; have := hlen.out; unfold maxLen; omega)); (focus (have := iL'.out; have := iK'.out; have := hlen.out; omega)); (focus (simp; omega)); intro v' w2 ho hg hnil; obtain ⟨g', cap', rfl⟩ := Joins.ownsRow_form ho (by omega); have hM2 := Lib.hid (RdMem.grown (w := w) (A := A) (m := m) (c := c) (p := true) (by with_reducible (repeat (first | exact hM1.out | refine RdMem.alloc ?_ _ | refine RdMem.setP (p := true) ?_ _ | refine RdMem.setHigh ?_ (by simp; omega) _))) hg (row_up ⟨_, _, _, _, _, iR1.out⟩)); obtain ⟨⟨r0', r1', r2'⟩, ⟨f0', f1', f2'⟩, ⟨t0', t1', t2'⟩, ⟨g0', g1', g2'⟩⟩ := hM2.out.facts; have ho' := Lib.hid ho; clear ho hg hnil))
            go_roundw
            case rel => exact ⟨k + mm, d - 1, ks ++ [(0, 65533)], true, _, _, _, by go_num, ⟨hM2.out.setK _ _ _, by rw [kc_append, List.length_append]; exact ownsRow_setCell_below ho'.out (by simp) _, by have := iL'.out; have := hlens.out.1; simp; omega, by have := hlens.out.1.2; have := hlr.out; have := hlen.out; omega, by have := iF'.out; have := hlens.out.1; omega, hE.out⟩⟩
            case measure => have := hlens.out.1; simp [intOf]; omega
          | false =>
            have hE := Lib.hid (rdI_step iS'.out hxr iF'.out (kk := 0) (ch := 65533) (mm := mm) (p' := false) (by rw [hkS.out]; simp) (by simp [pNext]))
            clear iS' hkS
            go_wp2_with (first | (go_at_call 20; refine (hcall.out _ (Below.alloc (Below.refl _ wr) (Nat.le_refl _) _)).mono ?_; rintro e wn ⟨rfl, mq, hwn⟩; have hbn := below_drewN (Below.refl (wr.alloc (.cells #[.int .i64 0, .int .i64 0] 43)).heap.size (wr.alloc (.cells #[.int .i64 0, .int .i64 0] 43))) mq; rw [← hwn] at hbn; clear hwn) | (go_at_call 21; refine (hof.out _).mono ?_; rintro e w1 ⟨rfl, hb0⟩; have hb' := hbn.trans (hb0.mono hbn.size); have hBq := ((Below.refl wr.heap.size wr).alloc (Nat.le_refl _) _).trans (hb'.mono (by simp)); have hM1 := Lib.hid (hM'.out.kept (hBq.mono iZ)); have iR1 := Lib.hid (ownsRow_mem iR'.out hBq); obtain ⟨⟨r0, r1, r2⟩, ⟨f0, f1, f2⟩, ⟨t0, t1, t2⟩, ⟨g0, g1, g2⟩⟩ := hM1.out.facts; obtain ⟨⟨kc0, kc1⟩, kf0, kf1⟩ := pair_at hb'; have ktw := pair_twice hb'; have hBk := Lib.hid hBq; have hz1 := hBq.size; have hz2 := hb'.size; simp only [World.size_alloc] at hz2; clear hBq hb'; clear hb0 hbn) | (at_builtin; refine wpList_append_own _ rfl _ _ 35 rfl (w.heap.size + 2) 43 ki (.agg #[.int .i64 0, .int .i64 0]) 2 16 Tryd.underlying35 hki.out hkz.out hksz.out hkby.out rfl (by omega) (.slice A m c) ks.length (kc ks) rfl ?_ ⟨w1.heap.size, 0, none⟩ 1 1 (kc [(0, 65533)]) ?_ (by simp [kc]) ?_ ?_ ?_ ?_ ?_ ?_; (focus (with_reducible (repeat (first | exact iR1.out | refine World.ownsRow.alloc ?_ _ | (refine ownsRow_setCell_other ?_ hne.out _) | (refine ownsRow_setCell_below ?_ (by simp) _))))); (focus (first | rfl | (simp [Act.eval, go_sem]; done))); (focus (show ∀ (j : Nat) (u : Value), [Value.int .i64 0, Value.int .i64 65533][j]? = some u → _; with_reducible exact pair_news _ _ _ _ _ (by simp))); (focus (intro u hu; simp [kc] at hu; rcases hu with rfl | rfl <;> rfl)); (focus (have := iL'.out; have := iK'.out; have := hlen.out; unfold maxLen; omega)); (focus (have := iL'.out; have := iK'.out; have := hlen.out; omega)); (focus (simp; omega)); intro v' w2 ho hg hnil; obtain ⟨g', cap', rfl⟩ := Joins.ownsRow_form ho (by omega); have hM2 := Lib.hid (RdMem.grown (w := w) (A := A) (m := m) (c := c) (p := false) (by with_reducible (repeat (first | exact hM1.out | refine RdMem.alloc ?_ _ | refine RdMem.setP (p := false) ?_ _ | refine RdMem.setHigh ?_ (by simp; omega) _))) hg (row_up ⟨_, _, _, _, _, iR1.out⟩)); obtain ⟨⟨r0', r1', r2'⟩, ⟨f0', f1', f2'⟩, ⟨t0', t1', t2'⟩, ⟨g0', g1', g2'⟩⟩ := hM2.out.facts; have ho' := Lib.hid ho; clear ho hg hnil))
            go_roundw
            case rel => exact ⟨k + mm, d - 1, ks ++ [(0, 65533)], false, _, _, _, by go_num, ⟨hM2.out.setK _ _ _, by rw [kc_append, List.length_append]; exact ownsRow_setCell_below ho'.out (by simp) _, by have := iL'.out; have := hlens.out.1; simp; omega, by have := hlens.out.1.2; have := hlr.out; have := hlen.out; omega, by have := iF'.out; have := hlens.out.1; omega, hE.out⟩⟩
            case measure => have := hlens.out.1; simp [intOf]; omega
    · obtain ⟨⟨r0, r1, r2⟩, ⟨f0, f1, f2⟩, ⟨t0, t1, t2⟩, ⟨g0, g1, g2⟩⟩ := hM.facts
      have hk : k = n := by have := hlen.out; omega
      clear hM iK
      subst hk
      have hF : Hid (rdM l.length l false = (ks, [], p)) := Lib.hid (by have h1 := iS'.out; rw [List.drop_of_length_le (by have := hlen.out; omega), rdM_nil] at h1; simpa using h1)
      go_wp2
      refine bodyPost_ret (v := .agg #[.slice A m c, .slice none 0 0, .bool p]) ?_ rfl ?_
      · simp [results, Tryd.results7, go_sem, r0, r1, r2, f0, f1, f2]
      · rw [hF.out]
        refine ⟨_, none, 0, rfl, ?_, ?_, ?_⟩
        · exact Joins.ownsRow_le (ownsRow_setCell_below (ownsRow_setCell_below (ownsRow_setCell_below iR'.out (by simp) _) (by simp) _) (by simp) _) (by omega)
        · exact ⟨rfl, Nat.le_refl _, by omega, fun _ => ⟨rfl, rfl⟩, fun _ e => (nomatch e), fun _ _ e => (nomatch e)⟩
        · exact ((hBw.out.setCell (by simp) _).setCell (by simp) _).setCell (by simp) _
end Go.Proofs.YtnogcpjfgnpbbaaDoor
