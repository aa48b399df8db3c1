/- The contract of twin.secret and of its iterator. Conditions: sizes within what a machine holds; the pinned tables of unicode/utf8. -/
import Derived.RangeFuncNested
import Derived.RangeFuncBound
import Derived.RangeFuncCalls
import Derived.RangeFuncLeaves
import Derived.Shelf.Abstract
import Derived.Shelf.RegionOpen
import Derived.OwnWalkIn
import Derived.TacticsInMore
import Derived.LoopNIn
import Derived.LoopIn
import Derived.RangeFuncBox
import Derived.Maps.AppendAt
import Derived.Test.YtnogcpjfgnpbbaaDoorTwinB
import Derived.Test.YtnogcpjfgnpbbaaDoorUtf
set_option linter.unusedSimpArgs false
set_option linter.unusedVariables false
namespace Go.Proofs.YtnogcpjfgnpbbaaDoor
open Go.RowKit
attribute [local go_sem] Oper.semAt_some

/-- the secret characters of bytes: where they stand and which they are; at i, what broke off: br -/
def secM : Nat → List UInt8 → Nat → Bool → List (Nat × Nat)
  | _, [], _, _ => []
  | 0, _ :: _, _, _ => []
  | d + 1, x :: r, i, br =>
    if x.toNat = 27 then
      if (eNext (x :: r)).2.2 ≠ 0 then [] else secM d ((x :: r).drop (eNext (x :: r)).2.1) (i + (eNext (x :: r)).2.1) (ebeg ((x :: r).take (eNext (x :: r)).2.1))
    else if (uNext (x :: r)).2.2 = 0 ∧ uprint (uNext (x :: r)).1 = true ∧ (1 < (uNext (x :: r)).2.1 ∨ br = false) then
      (i, (uNext (x :: r)).1) :: secM d ((x :: r).drop (uNext (x :: r)).2.1) (i + (uNext (x :: r)).2.1) false
    else secM d ((x :: r).drop (uNext (x :: r)).2.1) (i + (uNext (x :: r)).2.1) false
def secretM (l : List UInt8) : List (Nat × Nat) := secM l.length l 0 false
theorem secM_nil (d i : Nat) (br : Bool) : secM d [] i br = [] := by cases d <;> rfl

/-- one secret character: it may be shown; where it stands -/
abbrev Sec (N : Nat) := { p : Nat × Nat // uprint p.2 = true ∧ p.1 < N }
def vals {N : Nat} (l : List (Sec N)) : List (Nat × Nat) := l.map (·.1)
theorem vals_snoc {N : Nat} (l : List (Sec N)) (x : Sec N) : vals (l ++ [x]) = vals l ++ [x.1] := by simp [vals]

theorem abides_below {β : Type} {B : Nat} {J : β → World → Prop} (hJ : AbidesFrom B J) {s : β} {W W' : World} (h : J s W) (hb : Below W.heap.size W W') : J s W' :=
  hJ s W W' none h ⟨hb.os, hb.tape, hb.output, hb.size, fun k hk _ => hb.block k hk⟩ (by simp)

/-- the blocks with p lie as they lay; no block has gone -/
structure KeepP (p : Nat → Prop) (w w' : World) : Prop where
  os : w'.os = w.os
  tape : w'.tape = w.tape
  output : w'.output = w.output
  size : w.heap.size ≤ w'.heap.size
  block : ∀ k, p k → w'.heap[k]? = w.heap[k]?
theorem KeepP.refl (p : Nat → Prop) (w : World) : KeepP p w w := ⟨rfl, rfl, rfl, Nat.le_refl _, fun _ _ => rfl⟩
theorem KeepP.trans {p : Nat → Prop} {a b c : World} (h : KeepP p a b) (k : KeepP p b c) : KeepP p a c :=
  ⟨k.os.trans h.os, k.tape.trans h.tape, k.output.trans h.output, Nat.le_trans h.size k.size, fun i hi => (k.block i hi).trans (h.block i hi)⟩
theorem KeepP.of_below {p : Nat → Prop} {a b : World} (hp : ∀ k, p k → k < a.heap.size) (h : Below a.heap.size a b) : KeepP p a b :=
  ⟨h.os, h.tape, h.output, h.size, fun k hk => h.block k (hp k hk)⟩
theorem KeepP.below {p : Nat → Prop} {a b : World} {m : Nat} (h : KeepP p a b) (hp : ∀ k, k < m → p k) : Below m a b := ⟨h.os, h.tape, h.output, h.size, fun k hk => h.block k (hp k hk)⟩
theorem KeepP.alloc {p : Nat → Prop} {a b : World} (h : KeepP p a b) (hp : ∀ k, p k → k < a.heap.size) (o : Obj) : KeepP p a (b.alloc o) :=
  ⟨h.os, h.tape, h.output, by have := h.size; simp; omega, fun k hk => (Below.heap_alloc b o k (Nat.lt_of_lt_of_le (hp k hk) h.size)).trans (h.block k hk)⟩
theorem KeepP.setCell {p : Nat → Prop} {a b : World} (h : KeepP p a b) {q : Addr} (hq : ¬ p q.block) (u : Value) : KeepP p a (b.setCell q u) :=
  ⟨h.os, h.tape, h.output, by simpa using h.size, fun k hk => (Below.heap_setCell b q u k (fun e => hq (e ▸ hk))).trans (h.block k hk)⟩
theorem KeepP.grown {p : Nat → Prop} {a b c : World} {row : Option Nat} (h : KeepP p a b) (hg : b.grownBy c row) (hp : ∀ k, p k → k < a.heap.size) (hr : ∀ k, row = some k → ¬ p k) : KeepP p a c :=
  ⟨hg.os.trans h.os, hg.tape.trans h.tape, hg.output.trans h.output, Nat.le_trans h.size hg.size, fun k hk => (hg.block k (Nat.lt_of_lt_of_le (hp k hk) h.size) (fun e => hr k e.symm hk)).trans (h.block k hk)⟩
theorem KeepP.putObj {p : Nat → Prop} {m : Nat} (hp : ∀ k, p k → k < m) (W : World) (l : Nat) (o o' : Obj) (hl : m ≤ l) (h : W.heap[l]? = some o) : KeepP p W (W.putObj l o') :=
  have hg := grownBy_putObj' W l o'
  ⟨hg.os, hg.tape, hg.output, hg.size, fun k hk => hg.block k (by have := (Array.getElem?_eq_some_iff.1 h).1; have := hp k hk; omega) (fun e => by have := hp k hk; injection e; omega)⟩

/-- the rounds of the loop -/
structure SecI (L : List UInt8) (k d : Nat) (br : Bool) (pre : List (Nat × Nat)) : Prop where
  kle : k ≤ L.length
  fuel : L.length ≤ k + d
  spec : secretM L = pre ++ secM d (L.drop k) k br
  few : pre.length ≤ k
theorem SecI.next {L : List UInt8} {k d : Nat} {br br' : Bool} {pre : List (Nat × Nat)} {x : UInt8} {r : List UInt8} {m : Nat} (h : SecI L k d br pre) (hx : L.drop k = x :: r) (h1 : 1 ≤ m) (h2 : m ≤ (x :: r).length) (new : List (Nat × Nat)) (hn : new.length ≤ 1)
    (hs : ∀ e, secM (e + 1) (x :: r) k br = new ++ secM e ((x :: r).drop m) (k + m) br') : SecI L (k + m) (d - 1) br' (pre ++ new) := by
  have hl := congrArg List.length hx
  rw [List.length_drop] at hl
  have hk := h.kle; have hf := h.fuel; have hw := h.few
  obtain ⟨e, rfl⟩ : ∃ e, d = e + 1 := ⟨d - 1, by simp at hl; omega⟩
  refine ⟨by omega, by simp only [List.length_cons] at hl h2; omega, ?_, by simp only [List.length_append]; omega⟩
  rw [h.spec, hx, hs]
  simp only [Nat.add_sub_cancel, ← hx, List.drop_drop, List.append_assoc]

set_option maxRecDepth 100000 in
set_option maxHeartbeats 4000000 in
theorem secret1_in (n : Nat) (hn : 1 ≤ n) (l0 Bs cap : Nat) (p : Nat → Prop) (A : Option Addr) (L : List UInt8) (hL : L.length ≤ 1000000) (B : Nat) (J Jx : List (Sec L.length) → World → Prop) (hJ : AbidesFrom B J)
    (hY : ∀ pre x W, J pre W → pre.length < L.length → YieldAt Fence.wide (n - 1) Tryd.prog l0 #[.int .i64 (x.1.1 : Nat), .int .i64 (x.1.2 : Nat)] W fun e W' =>
      (e = .returned (.bool true) ∧ J (pre ++ [x]) W' ∧ KeepP p W W') ∨ (e = .returned (.bool false) ∧ Jx (pre ++ [x]) W'))
    (W : World) (hp : ∀ k, p k → k < W.heap.size) (hbs : ∀ W', KeepP p W W' → W'.cell? ⟨Bs, 0, none⟩ = some (.slice A L.length cap)) (hT : ∀ W', KeepP p W W' → Tabs W') (hR : ∀ W', KeepP p W W' → Rd W' A L.length cap L) (h0 : J [] W) :
    CallsIn Fence.wide n Tryd.prog 23 #[.func (.yield l0) #[] #[], .pointer (some ⟨Bs, 0, none⟩)] W fun e W' => (∃ v, e = .returned v) ∧
      ((∃ ys, vals ys = secretM L ∧ J ys W') ∨ (∃ pre, True ∧ Jx pre W')) := by
  have h0R := hR W (KeepP.refl _ _)
  have hlen := h0R.len; have hle := h0R.le; have hbig := h0R.big
  have hT' := Lib.hid hT; have hR' := Lib.hid hR; have hY' := Lib.hid hY; have hJ' := Lib.hid hJ; have hbs' := Lib.hid hbs; have hp' := Lib.hid hp; have hbs0 := hbs W (KeepP.refl _ _)
  clear hT hR hY hJ h0R hlen hbs hp
  refine callsIn_of_wp Tryd.func23 rfl trivial ?_ rfl
  simp only [Tryd.ntmps23, List.size_toArray, List.length_cons, List.length_nil, Nat.reduceAdd, Nat.reduceSub, Array.replicate_succ, Array.replicate_zero, List.push_toArray, List.append_toArray, List.nil_append, List.cons_append]
  gi_wp2
  gi_loopw [3, 4] (fun b i wr => ∃ (k d : Nat) (br : Bool) (pre : List (Sec L.length)), i = .int .i64 k ∧ b = .bool br ∧ Hid (SecI L k d br (vals pre)) ∧ Hid (J pre wr) ∧ Hid (KeepP p W wr)) (fun _ i _ => L.length - (intOf i).toNat)
  case atStart => exact ⟨0, L.length, false, [], rfl, rfl, ⟨by omega, by omega, rfl, by simp [vals]⟩, h0, KeepP.refl _ _⟩
  case round =>
    obtain ⟨k, d, br, pre, rfl, rfl, hI, hJs, hB⟩ := hrel
    have hkle := hI.out.kle
    have cB := hbs'.out wr hB.out
    have hpw := Lib.hid fun k hk => Nat.lt_of_lt_of_le (hp'.out k hk) hB.out.size
    have hBsw : Bs < wr.heap.size := World.block_lt_of_cell? _ _ cB
    by_cases hkn : (k : Int) < L.length
    · have hrd := hR'.out wr hB.out
      obtain ⟨x, r, hxr0⟩ : ∃ x r, L.drop k = x :: r := by
        cases hd : L.drop k with
        | nil => have := congrArg List.length hd; simp at this; omega
        | cons x r => exact ⟨x, r, rfl⟩
      obtain ⟨b, off, rfl⟩ := hrd.addr (by intro e; rw [e] at hkn; simp at hkn; omega)
      have hck : ¬ cap = k := by omega
      have hdr := hrd.drop k (by omega)
      rw [if_neg hck, hxr0] at hdr
      have hx0 := hdr.get0
      have hbb : b < wr.heap.size := World.block_lt_of_cell? _ _ hx0
      have hlr : Hid ((x :: r).length = L.length - k) := hdr.len
      have hxr := Lib.hid hxr0
      clear hxr0
      have hx8 := b_lt x
      have hdr' := Lib.hid hdr
      by_cases hx : x.toNat = 27
      · have hcall := Lib.hid fun W' hW' => escNext_any W' b (off + k) (L.length - k) (cap - k) (x :: r) (hdr'.out.below hW')
        have hbeg := Lib.hid fun W' hW' m hm => escBegins_any W' b (off + k) m (cap - k) ((x :: r).take m) ((hdr'.out.below hW').take m hm)
        have hlens := Lib.hid (eNext_len x r hx)
        have hst : Hid (∀ e, secM (e + 1) (x :: r) k br = if (eNext (x :: r)).2.2 ≠ 0 then [] else secM e ((x :: r).drop (eNext (x :: r)).2.1) (k + (eNext (x :: r)).2.1) (ebeg ((x :: r).take (eNext (x :: r)).2.1))) := Lib.hid fun e => by rw [secM, if_pos hx]
        rw [hx] at hx0
        clear hdr hrd hx hx8
        unfold KeyRes at hcall
        generalize eNext (x :: r) = P at *
        obtain ⟨kk, mm, er⟩ := P
        simp only at hcall hlens hst
        have hkm : (k : Int) + mm ≤ 1000000 := by have := hlens.out.1.2; have := hlr.out; omega
        have hmm : mm ≤ L.length - k := by have := hlens.out.1.2; have := hlr.out; omega
        have hmc : mm ≤ cap - k := by omega
        by_cases he : er = 0
        · subst he
          have hN : Hid (SecI L (k + mm) (d - 1) (ebeg ((x :: r).take mm)) (vals pre)) := Lib.hid (by have h1 := hI.out.next (br' := ebeg ((x :: r).take mm)) hxr.out hlens.out.1.1 hlens.out.1.2 [] (by simp) (fun e => by rw [hst.out, if_neg (by simp)]; rfl); simpa using h1)
          clear hst
          gi_wp2_with (first | (refine ⟨trivial, ?_⟩; gi_at_call 24; refine (callsIn_wide.2 (hcall.out _ (Below.refl _ _))).mono ?_; rintro e w1 ⟨rfl, hb1⟩; have hz1 := hb1.size) | (refine ⟨trivial, ?_⟩; gi_at_call 25; refine (callsIn_wide.2 (hbeg.out _ ?_ mm hmm)).mono ?_; (focus (with_reducible (repeat (first | exact hb1 | refine Below.alloc ?_ hz1 _ | refine Below.setCell ?_ (by simp; omega) _)))); rintro e w2 ⟨rfl, hb2⟩; have hb3 := (Below.alloc hb1 hz1 _).trans (hb2.mono (by simp; omega)); clear hb2))
          go_roundw
          case rel => exact ⟨k + mm, d - 1, _, pre, by go_num, rfl, hN, abides_below hJ'.out hJs.out hb3, hB.out.trans (KeepP.of_below hpw.out hb3)⟩
          case measure => have := hlens.out.1; simp [intOf]; omega
        · have he2 : ((er : Int) != 0) = true := by simp; omega
          have hE : Hid (secretM L = vals pre) := Lib.hid (by
            have h1 := hI.out.spec; have h2 := hI.out.fuel
            obtain ⟨e, rfl⟩ : ∃ e, d = e + 1 := ⟨d - 1, by omega⟩
            rw [hxr.out, hst.out, if_pos he, List.append_nil] at h1; exact h1)
          clear hst he
          gi_wp2_with (first | (refine ⟨trivial, ?_⟩; gi_at_call 24; refine (callsIn_wide.2 (hcall.out _ (Below.refl _ _))).mono ?_; rintro e w1 ⟨rfl, hb1⟩; have hz1 := hb1.size))
          refine bodyPost_ret (results_none rfl _ _ _) rfl ?_
          refine ⟨⟨_, rfl⟩, .inl ⟨pre, hE.out.symm, abides_below hJ'.out hJs.out ?_⟩⟩
          with_reducible (repeat (first | exact hb1 | refine Below.alloc ?_ hz1 _ | refine Below.setCell ?_ (by simp; omega) _))
      · have hcall := Lib.hid fun W' hW' => utfNext_any W' b (off + k) (L.length - k) (cap - k) (x :: r) ((hT'.out wr hB.out).below hW') (hdr'.out.below hW')
        have hlens := Lib.hid (uNext_len x r)
        have hst : Hid (∀ e, secM (e + 1) (x :: r) k br = if (uNext (x :: r)).2.2 = 0 ∧ uprint (uNext (x :: r)).1 = true ∧ (1 < (uNext (x :: r)).2.1 ∨ br = false) then
      (k, (uNext (x :: r)).1) :: secM e ((x :: r).drop (uNext (x :: r)).2.1) (k + (uNext (x :: r)).2.1) false
    else secM e ((x :: r).drop (uNext (x :: r)).2.1) (k + (uNext (x :: r)).2.1) false) := Lib.hid fun e => by rw [secM, if_neg hx]
        have hx27 : ((x.toNat : Int) == 27) = false := by simp; omega
        generalize x.toNat = X at hx0 hx8 hx27
        clear hdr hrd hx
        generalize uNext (x :: r) = P at *
        obtain ⟨cc, mm, er⟩ := P
        simp only at hcall hlens hst
        have hkm : (k : Int) + mm ≤ 1000000 := by have := hlens.out.1.2; have := hlr.out; omega
        have hpr := Lib.hid fun W => printable_any W (cc : Int)
        by_cases hy0 : er = 0 ∧ uprint cc = true ∧ (1 < mm ∨ br = false)
        · obtain ⟨rfl, hu, hq⟩ := hy0
          have hup := Lib.hid hu
          have hN : Hid (SecI L (k + mm) (d - 1) false (vals (pre ++ [⟨(k, cc), hup.out, by omega⟩]))) := Lib.hid (by
            rw [vals_snoc]; exact hI.out.next hxr.out hlens.out.1.1 hlens.out.1.2 [(k, cc)] (by simp) (fun e => by rw [hst.out, if_pos ⟨rfl, hup.out, hq⟩]; rfl))
          rw [hu] at hpr
          clear hst hu
          by_cases hm1 : (1 : Int) < mm
          · clear hq
            gi_wp2_with (first | (refine ⟨trivial, ?_⟩; gi_at_call 26; refine (callsIn_wide.2 (hcall.out _ (Below.refl _ _))).mono ?_; rintro e w1 ⟨rfl, hb1⟩; have hz1 := hb1.size) | (refine ⟨trivial, ?_⟩; gi_at_call 27; refine (callsIn_wide.2 (hpr.out _)).mono ?_; rintro e w2 ⟨rfl, hb2⟩; have hb3 := hb1.trans (hb2.mono hz1); obtain ⟨fn, tmps, assign, body, hy, hR2⟩ := hY'.out pre ⟨(k, cc), hup.out, by omega⟩ w2 (abides_below hJ'.out hJs.out hb3) (by have := hI.out.few; simp [vals] at this; omega); dsimp only at hy))
            refine hR2.mono ?_
            rintro e W3 (⟨rfl, hJ3, hk3⟩ | ⟨rfl, hJx3⟩)
            · gi_wp2
              go_roundw
              case rel => exact ⟨k + mm, d - 1, false, _, by go_num, rfl, hN, hJ3, (hB.out.trans (KeepP.of_below hpw.out hb3)).trans hk3⟩
              case measure => have := hlens.out.1; simp [intOf]; omega
            · gi_wp2
              refine bodyPost_ret (results_none rfl _ _ _) rfl ?_
              exact ⟨⟨_, rfl⟩, .inr ⟨_, trivial, hJx3⟩⟩
          · obtain rfl : br = false := hq.resolve_left (by omega)
            clear hq
            gi_wp2_with (first | (refine ⟨trivial, ?_⟩; gi_at_call 26; refine (callsIn_wide.2 (hcall.out _ (Below.refl _ _))).mono ?_; rintro e w1 ⟨rfl, hb1⟩; have hz1 := hb1.size) | (refine ⟨trivial, ?_⟩; gi_at_call 27; refine (callsIn_wide.2 (hpr.out _)).mono ?_; rintro e w2 ⟨rfl, hb2⟩; have hb3 := hb1.trans (hb2.mono hz1); obtain ⟨fn, tmps, assign, body, hy, hR2⟩ := hY'.out pre ⟨(k, cc), hup.out, by omega⟩ w2 (abides_below hJ'.out hJs.out hb3) (by have := hI.out.few; simp [vals] at this; omega); dsimp only at hy))
            refine hR2.mono ?_
            rintro e W3 (⟨rfl, hJ3, hk3⟩ | ⟨rfl, hJx3⟩)
            · gi_wp2
              go_roundw
              case rel => exact ⟨k + mm, d - 1, false, _, by go_num, rfl, hN, hJ3, (hB.out.trans (KeepP.of_below hpw.out hb3)).trans hk3⟩
              case measure => have := hlens.out.1; simp [intOf]; omega
            · gi_wp2
              refine bodyPost_ret (results_none rfl _ _ _) rfl ?_
              exact ⟨⟨_, rfl⟩, .inr ⟨_, trivial, hJx3⟩⟩
        · have hN : Hid (SecI L (k + mm) (d - 1) false (vals pre)) := Lib.hid (by have h1 := hI.out.next hxr.out hlens.out.1.1 hlens.out.1.2 [] (by simp) (fun e => by rw [hst.out, if_neg hy0]; rfl); simpa using h1)
          clear hst
          by_cases he : er = 0
          · subst he
            by_cases hu : uprint cc = true
            · obtain ⟨hm1, rfl⟩ : ¬ (1 : Int) < mm ∧ br = true := by
                refine ⟨fun h => hy0 ⟨rfl, hu, Or.inl (by omega)⟩, ?_⟩
                cases br with
                | true => rfl
                | false => exact absurd ⟨rfl, hu, Or.inr rfl⟩ hy0
              rw [hu] at hpr
              clear hy0 hu
              gi_wp2_with (first | (refine ⟨trivial, ?_⟩; gi_at_call 26; refine (callsIn_wide.2 (hcall.out _ (Below.refl _ _))).mono ?_; rintro e w1 ⟨rfl, hb1⟩; have hz1 := hb1.size) | (refine ⟨trivial, ?_⟩; gi_at_call 27; refine (callsIn_wide.2 (hpr.out _)).mono ?_; rintro e w2 ⟨rfl, hb2⟩; have hb3 := hb1.trans (hb2.mono hz1)))
              refine ⟨fun _ h => (by cases h), ?_⟩
              gi_wp2
              go_roundw
              case rel => exact ⟨k + mm, d - 1, false, pre, by go_num, rfl, hN, abides_below hJ'.out hJs.out hb3, hB.out.trans (KeepP.of_below hpw.out hb3)⟩
              case measure => have := hlens.out.1; simp [intOf]; omega
            · simp only [Bool.not_eq_true] at hu
              rw [hu] at hpr
              clear hy0 hu
              gi_wp2_with (first | (refine ⟨trivial, ?_⟩; gi_at_call 26; refine (callsIn_wide.2 (hcall.out _ (Below.refl _ _))).mono ?_; rintro e w1 ⟨rfl, hb1⟩; have hz1 := hb1.size) | (refine ⟨trivial, ?_⟩; gi_at_call 27; refine (callsIn_wide.2 (hpr.out _)).mono ?_; rintro e w2 ⟨rfl, hb2⟩; have hb3 := hb1.trans (hb2.mono hz1)))
              refine ⟨fun _ h => (by cases h), ?_⟩
              gi_wp2
              go_roundw
              case rel => exact ⟨k + mm, d - 1, false, pre, by go_num, rfl, hN, abides_below hJ'.out hJs.out hb3, hB.out.trans (KeepP.of_below hpw.out hb3)⟩
              case measure => have := hlens.out.1; simp [intOf]; omega
          · have he2 : ((er : Int) == 0) = false := by simp; omega
            clear hy0 he
            gi_wp2_with (first | (refine ⟨trivial, ?_⟩; gi_at_call 26; refine (callsIn_wide.2 (hcall.out _ (Below.refl _ _))).mono ?_; rintro e w1 ⟨rfl, hb1⟩; have hz1 := hb1.size))
            refine ⟨trivial, ?_⟩
            gi_wp2
            refine ⟨fun _ h => (by cases h), ?_⟩
            gi_wp2
            go_roundw
            case rel => exact ⟨k + mm, d - 1, false, pre, by go_num, rfl, hN, abides_below hJ'.out hJs.out hb1, hB.out.trans (KeepP.of_below hpw.out hb1)⟩
            case measure => have := hlens.out.1; simp [intOf]; omega
    · have hk : k = L.length := by omega
      gi_wp2
      go_end0
      exact ⟨⟨_, rfl⟩, .inl ⟨pre, by have h1 := hI.out.spec; rw [List.drop_of_length_le (by omega), secM_nil, List.append_nil] at h1; exact h1.symm, hJs.out⟩⟩
end Go.Proofs.YtnogcpjfgnpbbaaDoor
