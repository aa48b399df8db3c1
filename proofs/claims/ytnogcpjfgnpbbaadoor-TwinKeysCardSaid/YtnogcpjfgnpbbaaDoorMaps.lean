/- Steps of a walk over a map whose entries are known. Conditions: none; no program is named here. -/
import Derived.Test.YtnogcpjfgnpbbaaDoorBase
import Derived.MapKept
import Derived.Maps.OwnOps
import Derived.RangeFuncRecord
set_option linter.unusedSimpArgs false
set_option linter.unusedVariables false
namespace Go.Proofs.YtnogcpjfgnpbbaaDoor
open Go.RowKit Go.MapKept

section
variable {P : Program} {w : World} {mty kt et : TypeId} {d : TypeDesc} {r : Nat} {es : Array MapEntry} {clock : Nat} {k v : Value}

theorem run_insert_new (hm : P.underlying mty = some (.map kt et)) (hd : P.underlying kt = some d) (hk : IsKey d k) (hb : w.heap[r]? = some (.map es clock)) (hf : Instr.findNow d k es.toList 0 = some none) :
    (Instr.mapUpdate mty (.map (some r)) k v).run P w = .ok () (w.putObj r (.map (es.push { key := k, val := v, born := clock }) (clock + 1))) := by
  simp [Instr.mapUpdate, run_underlying hm, MapKept.run_getObj_map hb, run_checkKey hd hk, run_findKey hd hf, run_setObj_map _ hb, Result.andThen, World.putObj]

/-- a look into a map that is there -/
theorem run_look (hm : P.underlying mty = some (.map kt et)) (hd : P.underlying kt = some d) (hk : IsKey d k) {z : Value} (hz : (zeroValue et).run P w = .ok z w) (hb : w.heap[r]? = some (.map es clock))
    {R : Option (Nat × Value)} (hf : Instr.findNow d k es.toList 0 = some R) (ok : Bool) :
    (Instr.lookup mty (.map (some r)) k ok).run P w = .ok (if ok then .tuple #[(R.map (·.2)).getD z, .bool R.isSome] else (R.map (·.2)).getD z) w := by
  cases R with
  | none => cases ok <;> simp [Instr.lookup, run_underlying hm, MapKept.run_getObj_map hb, run_checkKey hd hk, run_findKey hd hf, Result.andThen, hz]
  | some x => cases ok <;> simp [Instr.lookup, run_underlying hm, MapKept.run_getObj_map hb, run_checkKey hd hk, run_findKey hd hf, Result.andThen]
end

section
variable {P : Program} {w : World} {ops : Array Oper} {rest : List Oper} {o : Oper} {a : Act} {Q : Exit → Act → World → Prop}

theorem putObj_alloc (w : World) (o o' : Obj) : (w.alloc o).putObj w.heap.size o' = w.alloc o' := by
  simp only [World.putObj, World.alloc]
  congr 1
  apply Array.ext
  · simp
  · intro i h1 h2
    simp at h1
    by_cases h : w.heap.size = i
    · subst h; simp
    · have hi : i < w.heap.size := by omega
      rw [Array.getElem_setIfInBounds_ne (by simp; omega) h, Array.getElem_push_lt hi, Array.getElem_push_lt hi]

/-- one more entry of a map that was made last -/
theorem wpList_insert_new (es : Array MapEntry) (clock : Nat) (hg : o.guard = none) (m x y : Operand) (t : TypeId) (hop : o.op = Op.insert t m x y) (kt et : TypeId) (d : TypeDesc) (hm : P.underlying t = some (.map kt et)) (hd : P.underlying kt = some d)
    (hv : a.eval m = .map (some w.heap.size)) (k v : Value) (hx : a.eval x = k) (hy : a.eval y = v) (hk : IsKey d k) (hf : Instr.findNow d k es.toList 0 = some none)
    (hK : wpList P ops Q rest (a.put o.dst undef) (w.alloc (.map (es.push { key := k, val := v, born := clock }) (clock + 1)))) :
    wpList P ops Q (o :: rest) a (w.alloc (.map es clock)) := by
  refine wpList_plain hg fun K' hK' => ?_
  have hb : (w.alloc (.map es clock)).heap[w.heap.size]? = some (.map es clock) := (MapKept.heap_alloc w _).1
  have hrun := run_insert_new (P := P) (v := v) hm hd hk hb hf
  rw [putObj_alloc] at hrun
  unfold Oper.wp
  simp [execOp, hop, hv, hx, hy, hrun, Result.andThen]
  exact hK' _ _ hK

theorem wpList_look (hg : o.guard = none) (m x : Operand) (t : TypeId) (ok : Bool) (hop : o.op = Op.lookup t m x ok) (kt et : TypeId) (d : TypeDesc) (hm : P.underlying t = some (.map kt et)) (hd : P.underlying kt = some d)
    (r : Nat) (hv : a.eval m = .map (some r)) (k : Value) (hx : a.eval x = k) (hk : IsKey d k) (z : Value) (hz : (zeroValue et).run P w = .ok z w) (es : Array MapEntry) (clock : Nat) (hb : w.heap[r]? = some (.map es clock))
    (R : Option (Nat × Value)) (hf : Instr.findNow d k es.toList 0 = some R)
    (hK : wpList P ops Q rest (a.put o.dst (if ok then .tuple #[(R.map (·.2)).getD z, .bool R.isSome] else (R.map (·.2)).getD z)) w) :
    wpList P ops Q (o :: rest) a w := by
  refine wpList_plain hg fun K' hK' => ?_
  have hrun := run_look (P := P) hm hd hk hz hb hf ok
  unfold Oper.wp
  simp [execOp, hop, hv, hx, hrun, Result.andThen]
  exact hK' _ _ hK
end
end Go.Proofs.YtnogcpjfgnpbbaaDoor
