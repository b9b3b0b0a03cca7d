/- Slices of slices, in a region that draws its order. -/
import Derived.Test.YtbcpbndhkainnaaRg
import Derived.Test.YtbcpbndhkainnaaRd
namespace Go.Proofs.Ytbcpbndhkainnaa
open Go.RowKit
set_option linter.unusedSimpArgs false
set_option linter.unusedVariables false
def cutA (a : Option Addr) (c l : Nat) : Option Addr := if c = l then a else a.map (·.add l)
section
variable {P : Program} {ops : Array Oper} {a : Act} {rs : List Blk} {o : Oper}
theorem run_size1 {e : TypeId} (hs : (P.info? e).map (·.size) = some 1) (w : World) : (sizeOf e).run P w = .ok 1 w := by
  cases hq : P.info? e with
  | none => simp [hq] at hs
  | some i0 =>
    have : i0.size = 1 := by simpa [hq] using hs
    simp [sizeOf, typeInfo, hq, this]
theorem run_slice2 (w : World) {t e : TypeId} {aa : Option Addr} {n c l h : Nat} (ht : P.underlying t = some (.slice e)) (hs : (P.info? e).map (·.size) = some 1) (h1 : l ≤ h) (h2 : h ≤ c) :
    (Instr.slice t (.slice aa n c) (some (.int .i64 l)) (some (.int .i64 h)) none).run P w = .ok (.slice (cutA aa c l) (h - l) (c - l)) w := by
  unfold Instr.slice
  rw [Sem.run_bind, run_underlying ht]
  have e1 : ((0 : Int) ≤ (h : Int) ∧ (h : Int) ≤ (c : Int)) := by omega
  have e2 : ((0 : Int) ≤ (l : Int) ∧ (l : Int) ≤ (h : Int)) := by omega
  simp [Instr.sliceBounds, Instr.sliceBound, asIntOf, e1, e2, h1, h2, run_size1 hs, cutA]
theorem run_slice_to (w : World) {t e : TypeId} {aa : Option Addr} {n c h : Nat} (ht : P.underlying t = some (.slice e)) (hs : (P.info? e).map (·.size) = some 1) (h2 : h ≤ c) :
    (Instr.slice t (.slice aa n c) none (some (.int .i64 h)) none).run P w = .ok (.slice (cutA aa c 0) h c) w := by
  unfold Instr.slice
  rw [Sem.run_bind, run_underlying ht]
  simp [Instr.sliceBounds, Instr.sliceBound, asIntOf, h2, run_size1 hs, cutA]
theorem run_slice_from (w : World) {t e : TypeId} {aa : Option Addr} {n c l : Nat} (ht : P.underlying t = some (.slice e)) (hs : (P.info? e).map (·.size) = some 1) (h1 : l ≤ n) :
    (Instr.slice t (.slice aa n c) (some (.int .i64 l)) none none).run P w = .ok (.slice (cutA aa c l) (n - l) (c - l)) w := by
  unfold Instr.slice
  rw [Sem.run_bind, run_underlying ht]
  simp [Instr.sliceBounds, Instr.sliceBound, asIntOf, h1, run_size1 hs, cutA]
theorem y_slice2 (hw : Region.wanted o (yielded ops a.tmps) = true) {t e : TypeId} {x lo hi : Operand} {aa : Option Addr} {n c l h : Nat} (ho : o.op = .slice t x (some lo) (some hi) none) (ht : P.underlying t = some (.slice e)) (hs : (P.info? e).map (·.size) = some 1)
    (hx : a.eval x = .slice aa n c) (hlo : a.eval lo = .int .i64 l) (hhi : a.eval hi = .int .i64 h) (h1 : l ≤ h) (h2 : h ≤ c) : YieldsIf P ops (Rows rs) o (.slice (cutA aa c l) (h - l) (c - l)) a := .inl ⟨hw, fun w _ => by
  unfold execOp
  simp only [ho, Option.map_some, Option.map_none, hx, hlo, hhi]
  simp [Instr.sliceAt, run_underlying ht, run_slice2 w ht hs h1 h2]⟩
theorem y_slice_to (hw : Region.wanted o (yielded ops a.tmps) = true) {t e : TypeId} {x hi : Operand} {aa : Option Addr} {n c h : Nat} (ho : o.op = .slice t x none (some hi) none) (ht : P.underlying t = some (.slice e)) (hs : (P.info? e).map (·.size) = some 1)
    (hx : a.eval x = .slice aa n c) (hhi : a.eval hi = .int .i64 h) (h2 : h ≤ c) : YieldsIf P ops (Rows rs) o (.slice (cutA aa c 0) h c) a := .inl ⟨hw, fun w _ => by
  unfold execOp
  simp only [ho, Option.map_some, Option.map_none, hx, hhi]
  simp [Instr.sliceAt, run_underlying ht, run_slice_to w ht hs h2]⟩
theorem y_slice_from (hw : Region.wanted o (yielded ops a.tmps) = true) {t e : TypeId} {x lo : Operand} {aa : Option Addr} {n c l : Nat} (ho : o.op = .slice t x (some lo) none none) (ht : P.underlying t = some (.slice e)) (hs : (P.info? e).map (·.size) = some 1)
    (hx : a.eval x = .slice aa n c) (hlo : a.eval lo = .int .i64 l) (h1 : l ≤ n) : YieldsIf P ops (Rows rs) o (.slice (cutA aa c l) (n - l) (c - l)) a := .inl ⟨hw, fun w _ => by
  unfold execOp
  simp only [ho, Option.map_some, Option.map_none, hx, hlo]
  simp [Instr.sliceAt, run_underlying ht, run_slice_from w ht hs h1]⟩
end
/-- What can be read stays readable in a part of it. -/
theorem Rd.cut {k : IntKind} {w : World} {a : Option Addr} {zs : List Int} (h : Rd k w a zs) {c l m : Nat} (hc : zs.length ≤ c) : Rd k w (cutA a c l) ((zs.drop l).take m) := fun i hi => by
  rw [List.length_take, List.length_drop] at hi
  obtain ⟨g, off, rfl, hl, hc2⟩ := h (l + i) (by omega)
  have hne : ¬ c = l := by omega
  refine ⟨g, off + l, ?_, hl, ?_⟩
  · unfold cutA
    rw [if_neg hne]
    simp only [Option.map_some]
    congr 1
    unfold Addr.add
    split <;> simp_all
  · rw [Nat.add_assoc, hc2]
    simp
end Go.Proofs.Ytbcpbndhkainnaa
