/- Rows of numbers that were handed in. -/
import Derived.Test.YtbcpbndhkainnaaBase
namespace Go.Proofs.Ytbcpbndhkainnaa
open Go.RowKit
def RdI (w : World) (a : Option Addr) (len : Nat) (zs : List Int) : Prop :=
  len ≤ maxLen ∧ (0 < len → ∃ b off, a = some ⟨b, off, none⟩ ∧ b < w.heap.size ∧ ∀ i, i < len → w.cell? ⟨b, off + i, none⟩ = some (.int .i64 (zs.getD i 0)) ∧ -9223372036854775808 ≤ zs.getD i 0 ∧ zs.getD i 0 ≤ 9223372036854775807)
def RdB (w : World) (a : Option Addr) (len : Nat) (zs : List Int) : Prop :=
  len ≤ maxLen ∧ (0 < len → ∃ b off, a = some ⟨b, off, none⟩ ∧ b < w.heap.size ∧ ∀ i, i < len → w.cell? ⟨b, off + i, none⟩ = some (.int .u8 (zs.getD i 0)) ∧ 0 ≤ zs.getD i 0 ∧ zs.getD i 0 ≤ 255)
/-- Numbers that can be read, all in blocks that were there. -/
def Rd (k : IntKind) (w : World) (a : Option Addr) (zs : List Int) : Prop := ∀ i (h : i < zs.length), ∃ g off, a = some ⟨g, off, none⟩ ∧ g < w.heap.size ∧ w.cell? ⟨g, off + i, none⟩ = some (.int k zs[i])
theorem Rd.new {k : IntKind} {w w' : World} {a : Option Addr} {zs : List Int} (h : Rd k w a zs) (x : Ext (fun _ => False) w w') : Rd k w' a zs := fun i hi => by
  obtain ⟨g, off, e, hl, hc⟩ := h i hi
  exact ⟨g, off, e, Nat.lt_of_lt_of_le hl x.size, by rw [← hc]; simp only [World.cell?, x.block g hl (fun h => h)]⟩
theorem Rd.addr {k : IntKind} {w : World} {a : Option Addr} {zs : List Int} (h : Rd k w a zs) (h0 : 0 < zs.length) : ∃ g off, a = some ⟨g, off, none⟩ ∧ g < w.heap.size ∧ ∀ i (hi : i < zs.length), w.cell? ⟨g, off + i, none⟩ = some (.int k zs[i]) := by
  obtain ⟨g, off, e, hl, _⟩ := h 0 h0
  refine ⟨g, off, e, hl, fun i hi => ?_⟩
  obtain ⟨g', off', e', _, hc⟩ := h i hi
  rw [e] at e'
  injection e' with e'
  injection e' with e1 e2
  subst e1; subst e2
  exact hc
theorem RdI.rd {w : World} {a : Option Addr} {len : Nat} {zs : List Int} (h : RdI w a len zs) : ∃ xs : List Int, xs.length = len ∧ Rd .i64 w a xs ∧ ∀ x ∈ xs, -9223372036854775808 ≤ x ∧ x ≤ 9223372036854775807 := by
  refine ⟨(List.range len).map (fun i => zs.getD i 0), by simp, fun i hi => ?_, fun x hx => ?_⟩
  · have hi' : i < len := by simpa using hi
    obtain ⟨b, off, e, hl, hc⟩ := h.2 (by omega)
    exact ⟨b, off, e, hl, by simpa using (hc i hi').1⟩
  · obtain ⟨i, hi, rfl⟩ := List.mem_map.1 hx
    have hi' : i < len := by simpa using hi
    obtain ⟨b, off, e, hl, hc⟩ := h.2 (by omega)
    exact (hc i hi').2
theorem RdB.rd {w : World} {a : Option Addr} {len : Nat} {zs : List Int} (h : RdB w a len zs) : ∃ xs : List Int, xs.length = len ∧ Rd .u8 w a xs ∧ ∀ x ∈ xs, 0 ≤ x ∧ x ≤ 255 := by
  refine ⟨(List.range len).map (fun i => zs.getD i 0), by simp, fun i hi => ?_, fun x hx => ?_⟩
  · have hi' : i < len := by simpa using hi
    obtain ⟨b, off, e, hl, hc⟩ := h.2 (by omega)
    exact ⟨b, off, e, hl, by simpa using (hc i hi').1⟩
  · obtain ⟨i, hi, rfl⟩ := List.mem_map.1 hx
    have hi' : i < len := by simpa using hi
    obtain ⟨b, off, e, hl, hc⟩ := h.2 (by omega)
    exact (hc i hi').2
end Go.Proofs.Ytbcpbndhkainnaa
