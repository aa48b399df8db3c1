/- The contract of twin.Plan at a plan of one item. Conditions: sizes within what a machine holds; the pinned tables of unicode/utf8. -/
import Derived.Test.YtnogcpjfgnpbbaaDoorSecB
import Derived.Laws.CopyRow
import Derived.Laws.Tables
set_option linter.unusedSimpArgs false
set_option linter.unusedVariables false
namespace Go.Proofs.YtnogcpjfgnpbbaaDoor
open Go.RowKit
attribute [local go_sem] Oper.semAt_some

/-- a character's bytes -/
def ub (c : Int) : List UInt8 := (Lib.encodeRuneZ c).map fun z => UInt8.ofNat z.toNat
theorem ub_cells (c : Int) (h : ufine c = true) : Lib.runeCells c = bc (ub c) := by
  have hz : ∀ z ∈ Lib.encodeRuneZ c, 0 ≤ z ∧ z < 256 := by
    unfold ufine at h
    simp at h
    intro z hz
    by_cases h1 : c ≤ 127
    · rw [Lib.encodeRuneZ_one (by omega) h1] at hz; simp at hz; omega
    · by_cases h2 : c ≤ 2047
      · rw [Lib.encodeRuneZ_two (by omega) h2] at hz; simp at hz; omega
      · by_cases h3 : c ≤ 65535
        · rw [Lib.encodeRuneZ_three (by omega)] at hz; simp at hz; omega
        · rw [Lib.encodeRuneZ_four (by omega) (by omega)] at hz; simp at hz; omega
  unfold Lib.runeCells bc ub
  rw [List.map_map]
  refine List.map_congr_left fun z hzz => ?_
  have := hz z hzz
  simp only [Function.comp_apply, UInt8.toNat_ofNat']
  congr 1
  omega
theorem ub_pos (c : Int) (h : ufine c = true) : 0 < (ub c).length := by
  unfold ufine at h
  simp at h
  unfold ub
  rw [List.length_map]
  by_cases h1 : c ≤ 127
  · rw [Lib.encodeRuneZ_one (by omega) h1]; simp
  · by_cases h2 : c ≤ 2047
    · rw [Lib.encodeRuneZ_two (by omega) h2]; simp
    · by_cases h3 : c ≤ 65535
      · rw [Lib.encodeRuneZ_three (by omega)]; simp
      · rw [Lib.encodeRuneZ_four (by omega) (by omega)]; simp
theorem turn_fine (c by_ : Int) (h : uprint c = true) : ufine (turnM c by_) = true := by
  unfold uprint ufine at h
  simp at h
  unfold turnM ufine
  simp
  by_cases h1 : c ≤ 126
  · rw [if_pos h1]; have := turnedM_bd c 32 126 by_ (by omega) h1; omega
  · rw [if_neg h1]
    by_cases h2 : c ≤ 2047
    · rw [if_pos h2]; have := turnedM_bd c 160 2047 by_ (by omega) h2; omega
    · rw [if_neg h2]
      by_cases h3 : 65535 < c
      · rw [if_pos h3]; have := turnedM_bd c 65536 1114111 by_ (by omega) (by omega); omega
      · rw [if_neg h3]
        by_cases h4 : 55296 < c
        · rw [if_pos h4]; have := turnedM_bd (c - 2048) 2048 63487 by_ (by omega) (by omega); split <;> omega
        · rw [if_neg h4]; have := turnedM_bd c 2048 63487 by_ (by omega) (by omega); split <;> omega
/-- bytes laid over others from a place on, as many as there is room for -/
def putAt (l : List UInt8) (i : Nat) (xs : List UInt8) : List UInt8 := l.take i ++ xs.take (l.length - i) ++ l.drop (i + (xs.take (l.length - i)).length)
theorem putAt_len (l : List UInt8) (i : Nat) (xs : List UInt8) (h : i ≤ l.length) : (putAt l i xs).length = l.length := by simp [putAt]; omega
/-- the secret characters, turned -/
def twPut (by_ : Int) (l : List UInt8) (ps : List (Nat × Nat)) : List UInt8 := ps.foldl (fun b p => putAt b p.1 (ub (turnM p.2 by_))) l
theorem twPut_snoc (by_ : Int) (l : List UInt8) (ps : List (Nat × Nat)) (p : Nat × Nat) : twPut by_ l (ps ++ [p]) = putAt (twPut by_ l ps) p.1 (ub (turnM p.2 by_)) := by simp [twPut]
theorem twPut_len (by_ : Int) (n : Nat) : ∀ (ps : List (Nat × Nat)) (l : List UInt8), l.length = n → (∀ p ∈ ps, p.1 ≤ n) → (twPut by_ l ps).length = n
  | [], l, h, _ => h
  | p :: r, l, h, hp => twPut_len by_ n r (putAt l p.1 (ub (turnM p.2 by_))) (by rw [putAt_len _ _ _ (by rw [h]; exact hp p (by simp)), h]) (fun q hq => hp q (by simp [hq]))

theorem wpListIn_copy_row {F : Fence} {nn : Nat} {P : Program} {w : World} {ops : Array Oper} {rest : List Oper} {o : Oper} {a : Act} {Q : Exit → Act → World → Prop} (hg : o.guard = none) (d s : Operand) (dT sT : TypeId)
    (hop : o.op = Op.call { callee := Callee.builtin Builtin.copy, args := #[d, s], argTypes := #[dT, sT] }) (elem : TypeId) (hu : P.underlying dT = some (.slice elem)) (hsz : (P.info? elem).map (·.size) = some 1)
    (base g n cap i dcap : Nat) (ad : Addr) (m scap : Nat) (L xs : List UInt8) (hd : a.eval d = .slice (some ⟨g, i, none⟩) (n - i) dcap) (hs : a.eval s = .slice (some ad) m scap)
    (hown : w.ownsRow base elem 1 (.slice (some ⟨g, 0, none⟩) n cap) n (bc L)) (hi : i ≤ n) (hm : xs.length = m) (hsrc : ∀ j u, (bc xs)[j]? = some u → w.cell? (ad.add j) = some u)
    (hK : ∀ w', w'.ownsRow base elem 1 (.slice (some ⟨g, 0, none⟩) n cap) n (bc (putAt L i xs)) → w.grownBy w' (some g) → wpListIn F nn P ops Q rest (a.put o.dst (goInt ((xs.take (n - i)).length))) w') :
    wpListIn F nn P ops Q (o :: rest) a w := by
  obtain ⟨hl, hor⟩ := hown
  have hLn : L.length = n := by rw [bc_len] at hl; omega
  rcases hor with ⟨h0, _⟩ | ⟨g', cap', cur, hv, hbase, hgg, hnc, hcm, hcs, htake⟩
  · cases h0
  · obtain ⟨rfl, rfl⟩ : g' = g ∧ cap' = cap := by injection hv with h1 h2 h3; injection h1 with h1; injection h1 with h1; exact ⟨h1.symm, h3.symm⟩
    have hT : (xs.take (n - i)).length = Nat.min m (n - i) := by rw [List.length_take, hm]; exact Nat.min_comm _ _
    have hrun := run_copy_row (P := P) w dT sT o.type elem g' i (n - i) dcap ad m scap cur elem (bc (xs.take (n - i))) hu hsz hgg (by rw [bc_len]; exact hT) (fun j v hj => hsrc j v (by
      have hj' := (List.getElem?_eq_some_iff.1 hj).1
      rw [bc_len] at hj'
      rw [bc, List.map_take, List.getElem?_take] at hj
      split at hj
      · exact hj
      · cases hj)) (by rw [bc_len, List.length_take]; omega) (bc_one _)
    refine wpListIn_plain hg fun K hK' => ?_
    unfold Oper.wpIn
    refine ⟨?_, ?_⟩
    · simp [Oper.about, hop, resolve, Target.leads, Sem.run_pure]
    · rw [Oper.semAt_plain F _ _ (by rw [hop]; intro c hc'; cases hc')]
      simp [execOp, hop, resolve, invoke, builtin, hd, hs, hrun, Result.andThen]
      refine hK' _ _ ?_
      have := hK (w.setRow g' (cur.toList.take i ++ bc (xs.take (n - i)) ++ cur.toList.drop (i + (bc (xs.take (n - i))).length)).toArray) ?_ ⟨rfl, rfl, rfl, by simp [World.setRow], fun k _ hk => setRow_other w g' k _ (fun e => hk (by rw [e]))⟩
      · simpa [bc_len] using this
      · refine ⟨by rw [bc_len, putAt_len _ _ _ (by omega)]; omega, Or.inr ⟨g', cap', _, rfl, hbase, setRow_heap w g' cur _ elem _ hgg, hnc, hcm, ?_, ?_⟩⟩
        · have h1 : cur.toList.length = cap' * 1 := by simpa using hcs
          simp [bc_len, List.length_take] at h1 ⊢
          omega
        · obtain ⟨R, hR⟩ : ∃ R, cur.toList = bc L ++ R := ⟨cur.toList.drop (n * 1), by rw [← htake, List.take_append_drop]⟩
          have hk : i + (xs.take (n - i)).length ≤ n := by rw [List.length_take]; omega
          have e1 : (bc L ++ R).take i = bc (L.take i) := by rw [List.take_append_of_le_length (by rw [bc_len]; omega), bc, bc, List.map_take]
          have e2 : (bc L ++ R).drop (i + (xs.take (n - i)).length) = bc (L.drop (i + (xs.take (n - i)).length)) ++ R := by rw [List.drop_append_of_le_length (by rw [bc_len]; omega), bc, bc, List.map_drop]
          show List.take (n * 1) (List.take i cur.toList ++ bc (xs.take (n - i)) ++ List.drop (i + (bc (xs.take (n - i))).length) cur.toList) = _
          rw [hR, bc_len, e1, e2, ← List.append_assoc, ← bc_append, ← bc_append, List.take_append_of_le_length (by have := putAt_len L i xs (by omega); rw [putAt, hLn] at this; rw [bc_len]; omega)]
          rw [List.take_of_length_le (by have := putAt_len L i xs (by omega); rw [putAt, hLn] at this; rw [bc_len]; omega), putAt, hLn]
end Go.Proofs.YtnogcpjfgnpbbaaDoor
