/- The contracts of package escseq. Conditions: none. -/
import Derived.Test.YtnogcpjfgnpbbaaDoorMaps
import Derived.Test.YtnogcpjfgnpbbaaDoorUtf
import Derived.Deep.RegionWith
set_option linter.unusedSimpArgs false
set_option linter.unusedVariables false
namespace Go.Proofs.YtnogcpjfgnpbbaaDoor
open Go.RowKit Go.MapKept

def sb (l : List UInt8) : Value := .string ⟨l.toArray⟩
/-- the keys by their sequences, as they are laid -/
def knownL : List (List UInt8 × Int) := [([27, 91, 67], 5), ([27, 79, 67], 5), ([27, 91, 68], 4), ([27, 79, 68], 4), ([27, 91, 72], 6), ([27, 79, 72], 6), ([27, 91, 49, 126], 6), ([27, 91, 55, 126], 6),
  ([27, 91, 70], 7), ([27, 79, 70], 7), ([27, 91, 52, 126], 7), ([27, 91, 56, 126], 7), ([27, 91, 51, 126], 3), ([27, 91, 50, 48, 48, 126], 13), ([27, 91, 50, 48, 49, 126], 14)]
def ents : Nat → List (List UInt8 × Int) → List MapEntry
  | _, [] => []
  | n, x :: r => ⟨sb x.1, .int .i64 x.2, n⟩ :: ents (n + 1) r
def knownEs : Array MapEntry := (ents 0 knownL).toArray

set_option maxHeartbeats 1000000 in
theorem known_any (w : World) :
    Calls Tryd.prog 39 #[] w fun e w' => e = .returned (.map (some w.heap.size)) ∧ w' = w.alloc (.map knownEs 15) := by
  have hmm := @run_makeMap Tryd.prog
  go_enter Tryd.func39, Tryd.ntmps39
  go_wp2_with (refine wpList_insert_new _ _ rfl _ _ _ _ rfl _ _ _ Tryd.underlying85 Tryd.underlying9 rfl _ _ rfl rfl trivial rfl ?_)
  go_ret
  exact ⟨rfl, rfl⟩

/-- the key of a sequence -/
def ekey (s : List UInt8) : Int := (knownL.lookup s).getD 15
def escan (l : List UInt8) (O : Bool) : Nat → Nat → Bool → Int × Nat × Nat
  | 0, _, _ => (0, l.length, 7)
  | d + 1, i, ot =>
    if i < l.length then
      if 64 ≤ (l.getD i 0).toNat ∧ (l.getD i 0).toNat ≤ 126 then (ekey (l.take (i + 1)), i + 1, 0)
      else if O = true ∨ 34 ≤ i then (15, i, 0)
      else if (48 ≤ (l.getD i 0).toNat ∧ (l.getD i 0).toNat ≤ 63) ∧ ot = false then escan l O d (i + 1) ot
      else if 32 ≤ (l.getD i 0).toNat ∧ (l.getD i 0).toNat ≤ 47 then escan l O d (i + 1) true
      else (15, i, 0)
    else (0, l.length, 7)
def eNext : List UInt8 → Int × Nat × Nat
  | [] => (0, 0, 6)
  | [x] => if x.toNat = 27 then (0, 1, 7) else (0, 0, 8)
  | x :: y :: r => if x.toNat = 27 then (if y.toNat ≠ 91 ∧ y.toNat ≠ 79 then (15, 1, 0) else escan (x :: y :: r) (decide (y.toNat = 79)) (r.length + 1) 2 false) else (0, 0, 8)

def fnd (s : List UInt8) : Nat → List (List UInt8 × Int) → Option (Nat × Value)
  | _, [] => none
  | i, x :: r => if s = x.1 then some (i, .int .i64 x.2) else fnd s (i + 1) r
theorem ba_beq (a b : List UInt8) : ((⟨a.toArray⟩ : ByteArray) == ⟨b.toArray⟩) = decide (a = b) := by
  rw [Bool.eq_iff_iff, MapKept.bytes_beq]; simp
theorem findNow_ents (s : List UInt8) : ∀ (L : List (List UInt8 × Int)) (n i : Nat), Instr.findNow .string (sb s) (ents n L) i = some (fnd s i L)
  | [], n, i => rfl
  | x :: r, n, i => by
    simp only [ents, fnd, Instr.findNow, Instr.sameNow, sb, ba_beq]
    by_cases h : s = x.1
    · simp [h]
    · simp only [h, decide_false, if_false]
      exact findNow_ents s r (n + 1) (i + 1)
theorem fnd_val (s : List UInt8) : ∀ (L : List (List UInt8 × Int)) (i : Nat), (fnd s i L).map (·.2) = (L.lookup s).map (Value.int .i64) ∧ (fnd s i L).isSome = (L.lookup s).isSome
  | [], i => ⟨rfl, rfl⟩
  | (x, v) :: r, i => by
    have h2 := fnd_val s r (i + 1)
    simp only [fnd, List.lookup]
    by_cases h : s = x
    · subst h; simp
    · have : (s == x) = false := by simpa using h
      rw [this]; simp only [h, if_false]; exact h2

set_option maxHeartbeats 400000 in
theorem between_any (a b c : Int) (w : World) :
    Calls Tryd.prog 38 #[.int .u8 a, .int .u8 b, .int .u8 c] w fun e w' => e = .returned (.bool (decide (b ≤ a) && decide (a ≤ c))) ∧ w = w' := by
  go_enter Tryd.func38, Tryd.ntmps38
  go_wp2
  all_goals go_ret
  all_goals (refine ⟨ret_b ?_, rfl⟩ <;> first | (simp; done) | (simp; omega))


theorem between_t (a b c : Int) (w : World) (h : b ≤ a ∧ a ≤ c) :
    Calls Tryd.prog 38 #[.int .u8 a, .int .u8 b, .int .u8 c] w fun e w' => e = .returned (.bool true) ∧ w = w' :=
  (between_any a b c w).mono (by rintro e w' ⟨rfl, rfl⟩; exact ⟨ret_b (by simp; omega), rfl⟩)
theorem between_f (a b c : Int) (w : World) (h : ¬ (b ≤ a ∧ a ≤ c)) :
    Calls Tryd.prog 38 #[.int .u8 a, .int .u8 b, .int .u8 c] w fun e w' => e = .returned (.bool false) ∧ w = w' :=
  (between_any a b c w).mono (by rintro e w' ⟨rfl, rfl⟩; exact ⟨ret_b (by simp; omega), rfl⟩)

def KeyRes (p : Int × Nat × Nat) (e : Ending) : Prop := e = .returned (.tuple #[.agg #[.int .i64 p.1, .int .i64 0], .int .i64 p.2.1, .int .i64 p.2.2])

theorem KeyRes.mk {p : Int × Nat × Nat} {a : Int} {b c : Nat} (h : p = (a, b, c)) : KeyRes p (.returned (.tuple #[.agg #[.int .i64 a, .int .i64 0], .int .i64 b, .int .i64 c])) := by subst h; rfl

theorem KeyRes.mk3 {p : Int × Nat × Nat} {a b c : Int} (h : p.1 = a ∧ (p.2.1 : Int) = b ∧ (p.2.2 : Int) = c) : KeyRes p (.returned (.tuple #[.agg #[.int .i64 a, .int .i64 0], .int .i64 b, .int .i64 c])) := by obtain ⟨rfl, rfl, rfl⟩ := h; rfl

set_option maxHeartbeats 1000000 in
theorem escNext_nil (w : World) (b off c : Nat) :
    Calls Tryd.prog 24 #[.slice (some ⟨b, off, none⟩) 0 c] w fun e w' => KeyRes (0, 0, 6) e ∧ Below w.heap.size w w' := by
  go_enter Tryd.func24, Tryd.ntmps24
  go_wp2
  go_step3
  go_wp2
  try rw [Exit.noGoto_ret]
  refine bodyPost_ret (v := .tuple #[.agg #[.int .i64 0, .int .i64 0], .int .i64 0, .int .i64 6]) ?_ rfl ?_
  · simp [results, Tryd.results24, go_sem]
  · exact ⟨rfl, (Below.refl _ _).alloc (Nat.le_refl _) _⟩

set_option maxHeartbeats 1000000 in
theorem escNext_not (w : World) (b off n c : Nat) (x : UInt8) (l : List UInt8) (h : Rd w (some ⟨b, off, none⟩) n c (x :: l)) (hx : x.toNat ≠ 27) :
    Calls Tryd.prog 24 #[.slice (some ⟨b, off, none⟩) n c] w fun e w' => KeyRes (0, 0, 8) e ∧ Below w.heap.size w w' := by
  have h0 := h.get0
  have hbs : b < w.heap.size := World.block_lt_of_cell? _ _ h0
  have hn : 0 < n := by have := h.len; simp at this; omega
  have hn0 : ((n : Int) == 0) = false := by simp; omega
  have hle := h.le; have hbig := h.big
  have hx2 : ((x.toNat : Int) != 27) = true := by simp; omega
  have hx3 := b_lt x
  generalize x.toNat = X at *
  clear h hx
  go_enter Tryd.func24, Tryd.ntmps24
  go_wp2
  go_step3
  go_wp2
  try rw [Exit.noGoto_ret]
  refine bodyPost_ret (v := .tuple #[.agg #[.int .i64 0, .int .i64 0], .int .i64 0, .int .i64 8]) ?_ rfl ?_
  · simp [results, Tryd.results24, go_sem]
  · exact ⟨rfl, (Below.refl _ _).alloc (Nat.le_refl _) _⟩

section
variable (w : World) (b off n c : Nat) (x y : UInt8) (r : List UInt8)
set_option maxHeartbeats 1000000 in
theorem escNext_one (h : Rd w (some ⟨b, off, none⟩) 1 c [x]) (hx : x.toNat = 27) :
    Calls Tryd.prog 24 #[.slice (some ⟨b, off, none⟩) 1 c] w fun e w' => KeyRes (0, 1, 7) e ∧ Below w.heap.size w w' := by
  have h0 := h.get0
  have hbs : b < w.heap.size := World.block_lt_of_cell? _ _ h0
  have hle := h.le; have hbig := h.big
  rw [hx] at h0
  clear h hx
  go_enter Tryd.func24, Tryd.ntmps24
  go_wp2
  go_step3
  go_wp2
  go_step3
  go_wp2
  go_loop [7] (fun i => i = .int .i64 2) (fun _ => 0)
  case atStart => rfl
  case round =>
    subst hrel
    go_wp2
    try rw [Exit.noGoto_ret]
    refine bodyPost_ret (v := .tuple #[.agg #[.int .i64 0, .int .i64 0], .int .i64 1, .int .i64 7]) ?_ rfl ?_
    · simp [results, Tryd.results24, go_sem]
    · exact ⟨rfl, (((Below.refl _ _).alloc (Nat.le_refl _) _).alloc (by simp) _)⟩

set_option maxHeartbeats 1000000 in
theorem escNext_other (h : Rd w (some ⟨b, off, none⟩) n c (x :: y :: r)) (hx : x.toNat = 27) (hy : y.toNat ≠ 91) (hy2 : y.toNat ≠ 79) :
    Calls Tryd.prog 24 #[.slice (some ⟨b, off, none⟩) n c] w fun e w' => KeyRes (15, 1, 0) e ∧ Below w.heap.size w w' := by
  have h0 := h.get0
  have h1 : w.cell? ⟨b, off + 1, none⟩ = some (.int .u8 y.toNat) := h.cell b off rfl 1 y rfl
  have hbs : b < w.heap.size := World.block_lt_of_cell? _ _ h0
  have hn : 1 < n := by have := h.len; simp at this; omega
  have hn0 : ((n : Int) == 0) = false := by simp; omega
  have hn1 : (1 : Int) < n := by omega
  have hle := h.le; have hbig := h.big
  have hx2 : ((y.toNat : Int) != 91) = true := by simp; omega
  have hx4 : ((y.toNat : Int) != 79) = true := by simp; omega
  have hx3 := b_lt y
  rw [hx] at h0
  generalize y.toNat = Y at *
  clear h hx hy hy2
  go_enter Tryd.func24, Tryd.ntmps24
  go_wp2
  go_step3
  go_wp2
  try rw [Exit.noGoto_ret]
  refine bodyPost_ret (v := .tuple #[.agg #[.int .i64 15, .int .i64 0], .int .i64 1, .int .i64 0]) ?_ rfl ?_
  · simp [results, Tryd.results24, go_sem]
  · exact ⟨rfl, (((Below.refl _ _).alloc (Nat.le_refl _) _).alloc (by simp) _)⟩

set_option maxRecDepth 100000 in
set_option maxHeartbeats 2000000 in
theorem escNext_scan (O : Bool) (h : Rd w (some ⟨b, off, none⟩) n c (x :: y :: r)) (hx : x.toNat = 27) (hy : y.toNat = if O then 79 else 91) :
    Calls Tryd.prog 24 #[.slice (some ⟨b, off, none⟩) n c] w fun e w' => KeyRes (escan (x :: y :: r) O (r.length + 1) 2 false) e ∧ Below w.heap.size w w' := by
  have h0 := h.get0
  have h1 : w.cell? ⟨b, off + 1, none⟩ = some (.int .u8 y.toNat) := h.cell b off rfl 1 y rfl
  have hbs : b < w.heap.size := World.block_lt_of_cell? _ _ h0
  have hlen := h.len
  have hn : 1 < n := by simp at hlen; omega
  have hn0 : ((n : Int) == 0) = false := by simp; omega
  have hn1 : (1 : Int) < n := by omega
  have hle := h.le; have hbig := h.big
  rw [hx] at h0
  have hD : (x :: y :: r).length ≤ 2 + (r.length + 1) := by simp; omega
  generalize x :: y :: r = l at *
  generalize r.length + 1 = D at *
  have hlen' := Lib.hid hlen
  clear hlen hx
  have hh := Lib.hid h
  clear h
  have hfin : Hid (∀ (k : Nat) (W : World), k < n → Below w.heap.size w W → ∃ (v : Int) (ok : Bool), (ok = true → v = ekey (l.take (k + 1))) ∧ (ok = false → ekey (l.take (k + 1)) = 15) ∧
      Sem.run Tryd.prog (Instr.lookup 85 (.map (some W.heap.size)) (sb (l.take (k + 1))) true) (W.alloc (.map knownEs 15)) = .ok (.tuple #[.int .i64 v, .bool ok]) (W.alloc (.map knownEs 15))) := by
    intro k W hk _
    obtain ⟨hv1, hv2⟩ := fnd_val (l.take (k + 1)) knownL 0
    have hl := run_look (P := Tryd.prog) (mty := 85) (r := W.heap.size) (w := W.alloc (.map knownEs 15)) Tryd.underlying85 Tryd.underlying9 (k := sb (l.take (k + 1))) trivial (Tryd.zeroValue3 _) (MapKept.heap_alloc W _).1 (findNow_ents (l.take (k + 1)) knownL 0 0) true
    rw [hv1, hv2] at hl
    unfold ekey
    cases hL : knownL.lookup (l.take (k + 1)) with
    | none => exact ⟨0, false, by simp, by simp, by rw [hl, hL]; rfl⟩
    | some v => exact ⟨v, true, by simp, by simp, by rw [hl, hL]; rfl⟩
  have hstr : Hid (∀ (k : Nat) (W : World), k < n → Below w.heap.size w W → Sem.run Tryd.prog (convert 22 9 (.slice (some ⟨b, off, none⟩) (k + 1) c)) W = .ok (sb (l.take (k + 1))) W) :=
    fun k W hk hB => ((hh.out.below hB).take (k + 1) (by omega)).str _ _ _ Tryd.underlying22 Tryd.underlying5 Tryd.underlying9
  obtain ⟨F, hF⟩ : ∃ F, escan l O = F := ⟨_, rfl⟩
  have hS : Hid (∀ d k o, l.length ≤ k + d → k < n → F d k o = if 64 ≤ (l.getD k 0).toNat ∧ (l.getD k 0).toNat ≤ 126 then (ekey (l.take (k + 1)), k + 1, 0)
      else if O = true ∨ 34 ≤ k then (15, k, 0)
      else if (48 ≤ (l.getD k 0).toNat ∧ (l.getD k 0).toNat ≤ 63) ∧ o = false then F (d - 1) (k + 1) o
      else if 32 ≤ (l.getD k 0).toNat ∧ (l.getD k 0).toNat ≤ 47 then F (d - 1) (k + 1) true
      else (15, k, 0)) := by
    intro d k o h1 h2
    have := hlen'.out
    subst hF
    cases d with
    | zero => omega
    | succ d => rw [escan, if_pos (by omega)]; rfl
  have hT : Hid (∀ d k o, n ≤ k → F d k o = (0, n, 7)) := by
    intro d k o h1
    have := hlen'.out
    subst hF
    cases d with
    | zero => rw [escan, this]
    | succ d => rw [escan, if_neg (by omega), this]
  rw [hF]
  clear hF
  cases O
  all_goals
    (simp only [if_true, if_false, Bool.false_eq_true] at hy
     rw [hy] at h1
     clear hy
     go_enter Tryd.func24, Tryd.ntmps24
     go_wp2
     go_step3
     go_wp2
     go_step3
     go_wp2
     go_loop [6, 7] (fun ot i => ∃ (k d : Nat) (o : Bool), ot = .bool o ∧ i = .int .i64 k ∧ 2 ≤ k ∧ k ≤ n + 2 ∧ l.length ≤ k + d ∧ Hid (F D 2 false = F d k o)) (fun _ i => n - (intOf i).toNat)
     case atStart => exact ⟨2, D, false, rfl, rfl, by omega, by omega, hD, rfl⟩
     case round =>
       obtain ⟨k, d, o, rfl, rfl, h2k, hkn, hkd, hR⟩ := hrel
       by_cases hk : (k : Int) < n
       · have hcell := hh.out.get k (by omega)
         have hE := Lib.hid (hS.out d k o hkd (by omega))
         have hC := b_lt (l.getD k 0)
         generalize (l.getD k 0).toNat = C at hcell hE hC
         by_cases hf : 64 ≤ C ∧ C ≤ 126
         · go_wp2_with (go_at_call 38; first | (refine (between_t _ _ _ _ ?_).mono ?_; omega; rintro e w' ⟨rfl, rfl⟩) | (refine (between_f _ _ _ _ ?_).mono ?_; omega; rintro e w' ⟨rfl, rfl⟩))
           obtain ⟨W1, hW1⟩ : ∃ W1, (w.alloc (Obj.cells #[Value.int IntKind.i64 0, Value.int IntKind.i64 0] 43)).alloc (Obj.cells #[Value.int IntKind.i64 15, Value.int IntKind.i64 0] 43) = W1 := ⟨_, rfl⟩
           have hB1 : Below w.heap.size w W1 := by rw [← hW1]; exact (((Below.refl _ _).alloc (Nat.le_refl _) _).alloc (by simp) _)
           have hc1 := hstr.out k W1.drew (by omega) hB1.drew
           have hc2 := hstr.out k (W1.alloc (.map knownEs 15)).drew (by omega) (hB1.alloc hB1.size _).drew
           obtain ⟨v, ok, hv1, hv2, hlk⟩ := hfin.out k W1.drew (by omega) hB1.drew
           have hsz : W1.heap.size = w.heap.size + 1 + 1 := by rw [← hW1]; simp
           rw [World.size_drew, hsz] at hlk
           have hlk2 : Sem.run Tryd.prog (Instr.lookup 85 (.map (some (w.heap.size + 1 + 1))) (sb (l.take (k + 1))) true) (W1.alloc (.map knownEs 15)).drew = .ok (.tuple #[.int .i64 v, .bool ok]) (W1.alloc (.map knownEs 15)).drew := hlk
           clear hlk hsz
           subst hW1
           generalize sb (l.take (k + 1)) = S at hc1 hc2 hlk2
           have hv1' := Lib.hid hv1
           have hv2' := Lib.hid hv2
           clear hv1 hv2 hB1
           have hs1 : (k : Int) + 1 ≤ c := by omega
           have hs2 : (0 : Int) ≤ (k : Int) + 1 := by omega
           have hs3 : ((k : Int) + 1).toNat = k + 1 := by omega
           have hs4 : IntKind.i64.wrap ((k : Int) + 1) = (k : Int) + 1 := IntWalk.i64_in _ (by omega)
           have hE2 := Lib.hid (hR.out.trans (hE.out.trans (if_pos hf)))
           go_region_with (go_at_call 39; refine (known_any _).mono ?_; rintro e w' ⟨rfl, rfl⟩)
           all_goals
             (cases ok with
              | true =>
                go_wp2
                try rw [Exit.noGoto_ret]
                refine bodyPost_ret (v := .tuple #[.agg #[.int .i64 v, .int .i64 0], .int .i64 ((k : Int) + 1), .int .i64 0]) ?_ rfl ?_
                · simp [results, Tryd.results24, go_sem]
                · refine ⟨KeyRes.mk3 ?_, by (repeat (first | exact Below.refl _ _ | assumption | refine Below.drew ?_ | refine Below.alloc ?_ ?_ _ | refine Below.setCell ?_ ?_ _)); all_goals first | omega | (simp; done) | (simp; omega)⟩
                  rw [hE2.out]; exact ⟨(hv1'.out trivial).symm, by simp, rfl⟩
              | false =>
                go_wp2
                try rw [Exit.noGoto_ret]
                refine bodyPost_ret (v := .tuple #[.agg #[.int .i64 15, .int .i64 0], .int .i64 ((k : Int) + 1), .int .i64 0]) ?_ rfl ?_
                · simp [results, Tryd.results24, go_sem]
                · refine ⟨KeyRes.mk3 ?_, by (repeat (first | exact Below.refl _ _ | assumption | refine Below.drew ?_ | refine Below.alloc ?_ ?_ _ | refine Below.setCell ?_ ?_ _)); all_goals first | omega | (simp; done) | (simp; omega)⟩
                  rw [hE2.out]; exact ⟨hv2'.out trivial, by simp, rfl⟩)
         · by_cases hfull : 34 ≤ (k : Int)
           · have hE2 : Hid (F D 2 false = (15, k, 0)) := hR.out.trans (hE.out.trans ((if_neg hf).trans (if_pos (Or.inr (by omega)))))
             go_wp2_with (go_at_call 38; first | (refine (between_t _ _ _ _ ?_).mono ?_; omega; rintro e w' ⟨rfl, rfl⟩) | (refine (between_f _ _ _ _ ?_).mono ?_; omega; rintro e w' ⟨rfl, rfl⟩))
             try rw [Exit.noGoto_ret]
             refine bodyPost_ret (v := .tuple #[.agg #[.int .i64 15, .int .i64 0], .int .i64 k, .int .i64 0]) ?_ rfl ?_
             · simp [results, Tryd.results24, go_sem]
             · exact ⟨KeyRes.mk hE2.out, by (repeat (first | exact Below.refl _ _ | assumption | refine Below.drew ?_ | refine Below.alloc ?_ ?_ _ | refine Below.setCell ?_ ?_ _)); all_goals first | omega | (simp; done) | (simp; omega)⟩
           · first
             | (have hE2 : Hid (F D 2 false = (15, k, 0)) := hR.out.trans (hE.out.trans ((if_neg hf).trans (if_pos (Or.inl trivial))))
                go_wp2_with (go_at_call 38; first | (refine (between_t _ _ _ _ ?_).mono ?_; omega; rintro e w' ⟨rfl, rfl⟩) | (refine (between_f _ _ _ _ ?_).mono ?_; omega; rintro e w' ⟨rfl, rfl⟩))
                try rw [Exit.noGoto_ret]
                refine bodyPost_ret (v := .tuple #[.agg #[.int .i64 15, .int .i64 0], .int .i64 k, .int .i64 0]) ?_ rfl ?_
                · simp [results, Tryd.results24, go_sem]
                · exact ⟨KeyRes.mk hE2.out, by (repeat (first | exact Below.refl _ _ | assumption | refine Below.drew ?_ | refine Below.alloc ?_ ?_ _ | refine Below.setCell ?_ ?_ _)); all_goals first | omega | (simp; done) | (simp; omega)⟩)
             | (have hfl : ¬ (false = true ∨ 34 ≤ k) := by simp; omega
                have hE1 := Lib.hid (hR.out.trans (hE.out.trans ((if_neg hf).trans (if_neg hfl))))
                clear hR hE
                by_cases hdig : 48 ≤ C ∧ C ≤ 63
                · cases o with
                  | false =>
                    have hE2 := Lib.hid (hE1.out.trans (if_pos ⟨hdig, rfl⟩))
                    clear hE1
                    go_wp2_with (go_at_call 38; first | (refine (between_t _ _ _ _ ?_).mono ?_; omega; rintro e w' ⟨rfl, rfl⟩) | (refine (between_f _ _ _ _ ?_).mono ?_; omega; rintro e w' ⟨rfl, rfl⟩))
                    go_round
                    case rel => exact ⟨k + 1, d - 1, false, rfl, by go_num, by omega, by omega, by have := hlen'.out; omega, hE2⟩
                    case measure => simp [intOf]; omega
                  | true =>
                    have hE2 : Hid (F D 2 false = (15, k, 0)) := hE1.out.trans ((if_neg (by simp)).trans (if_neg (by omega)))
                    clear hE1
                    go_wp2_with (go_at_call 38; first | (refine (between_t _ _ _ _ ?_).mono ?_; omega; rintro e w' ⟨rfl, rfl⟩) | (refine (between_f _ _ _ _ ?_).mono ?_; omega; rintro e w' ⟨rfl, rfl⟩))
                    try rw [Exit.noGoto_ret]
                    refine bodyPost_ret (v := .tuple #[.agg #[.int .i64 15, .int .i64 0], .int .i64 k, .int .i64 0]) ?_ rfl ?_
                    · simp [results, Tryd.results24, go_sem]
                    · exact ⟨KeyRes.mk hE2.out, by (repeat (first | exact Below.refl _ _ | assumption | refine Below.drew ?_ | refine Below.alloc ?_ ?_ _ | refine Below.setCell ?_ ?_ _)); all_goals first | omega | (simp; done) | (simp; omega)⟩
                · by_cases hmid : 32 ≤ C ∧ C ≤ 47
                  · have hE2 := Lib.hid (hE1.out.trans ((if_neg (fun h => hdig h.1)).trans (if_pos hmid)))
                    clear hE1
                    go_wp2_with (go_at_call 38; first | (refine (between_t _ _ _ _ ?_).mono ?_; omega; rintro e w' ⟨rfl, rfl⟩) | (refine (between_f _ _ _ _ ?_).mono ?_; omega; rintro e w' ⟨rfl, rfl⟩))
                    go_round
                    case rel => exact ⟨k + 1, d - 1, true, rfl, by go_num, by omega, by omega, by have := hlen'.out; omega, hE2⟩
                    case measure => simp [intOf]; omega
                  · have hE2 : Hid (F D 2 false = (15, k, 0)) := hE1.out.trans ((if_neg (fun h => hdig h.1)).trans (if_neg hmid))
                    clear hE1
                    go_wp2_with (go_at_call 38; first | (refine (between_t _ _ _ _ ?_).mono ?_; omega; rintro e w' ⟨rfl, rfl⟩) | (refine (between_f _ _ _ _ ?_).mono ?_; omega; rintro e w' ⟨rfl, rfl⟩))
                    try rw [Exit.noGoto_ret]
                    refine bodyPost_ret (v := .tuple #[.agg #[.int .i64 15, .int .i64 0], .int .i64 k, .int .i64 0]) ?_ rfl ?_
                    · simp [results, Tryd.results24, go_sem]
                    · exact ⟨KeyRes.mk hE2.out, by (repeat (first | exact Below.refl _ _ | assumption | refine Below.drew ?_ | refine Below.alloc ?_ ?_ _ | refine Below.setCell ?_ ?_ _)); all_goals first | omega | (simp; done) | (simp; omega)⟩)
       · have hE := Lib.hid (hR.out.trans (hT.out d k o (by omega)))
         go_wp2
         try rw [Exit.noGoto_ret]
         refine bodyPost_ret (v := .tuple #[.agg #[.int .i64 0, .int .i64 0], .int .i64 n, .int .i64 7]) ?_ rfl ?_
         · simp [results, Tryd.results24, go_sem]
         · exact ⟨KeyRes.mk hE.out, (((Below.refl _ _).alloc (Nat.le_refl _) _).alloc (by simp) _)⟩)
end
end Go.Proofs.YtnogcpjfgnpbbaaDoor
