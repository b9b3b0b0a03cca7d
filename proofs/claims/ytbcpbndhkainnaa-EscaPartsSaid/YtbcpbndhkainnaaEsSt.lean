/- The kept facts of layer 2, and the sizes of its types. -/
import Derived.Test.YtbcpbndhkainnaaEsTold
import Derived.Test.YtbcpbndhkainnaaEsSign
import Derived.Test.YtbcpbndhkainnaaSt
namespace Go.Proofs.Ytbcpbndhkainnaa
open Go.RowKit
set_option linter.unusedSimpArgs false
set_option linter.unusedVariables false
theorem Try.size3 : (Try.prog.info? 3).map (·.size) = some 1 := by kernel_rfl
theorem Try.size4 : (Try.prog.info? 4).map (·.size) = some 1 := by kernel_rfl
theorem Try.size22 : (Try.prog.info? 22).map (·.size) = some 1 := by kernel_rfl
theorem Try.size27 : (Try.prog.info? 27).map (·.size) = some 1 := by kernel_rfl
theorem Try.size24 : (Try.prog.info? 24).map (·.size) = some 3 := by kernel_rfl
theorem Try.size31 : (Try.prog.info? 31).map (·.size) = some 3 := by kernel_rfl
theorem Try.size33 : (Try.prog.info? 33).map (·.size) = some 8 := by kernel_rfl
def own1 (t size : Nat) (v : Value) (n : Nat) (xs : List Value) : Fact where
  holds w := w.ownsRow 0 t size v n xs
  foot := Bk v
  stable := fun G w w' x h hf => own_ext h x hf
  lt := fun w h k hk => own_lt h k hk
abbrev intsF (v : Value) (xs : List Int) : Fact := own1 3 1 v xs.length (ints xs)
abbrev runsF (v : Value) (xs : List Int) : Fact := own1 21 1 v xs.length (xs.map (Value.int .i32))
def actsF (v : Value) (L : List (Ac × Value)) : Fact where
  holds w := Acts w v L
  foot := fun k => Bk v k ∨ ∃ x ∈ L, Bk x.2 k
  stable := fun G w w' x h hf => ⟨own_ext h.own x (fun k hk => hf k (Or.inl hk)), fun y hy => own_ext (h.par y hy) x (fun k hk => hf k (Or.inr ⟨y, hy, hk⟩))⟩
  lt := fun w h k hk => by
    rcases hk with hk | ⟨y, hy, hk⟩
    · exact own_lt h.own k hk
    · exact own_lt (h.par y hy) k hk
/-- What is owned of one type lies in none of my blocks, of other types. -/
theorem St.apart {F : Nat → Prop} {W0 w : World} {bs : List Blk} {ks : List Fact} (h : St F W0 w bs ks) {base t size n : Nat} {v : Value} {xs : List Value} (ho : w.ownsRow base t size v n xs) (ht : ∀ x ∈ bs, x.2.1 ≠ t) : ∀ k, Bk v k → ¬ Mine bs k := fun k hk ⟨x, hx, e⟩ => own_ne (h.rows x hx) ho (ht x hx) (by rw [e]; exact hk)
theorem St.own {F : Nat → Prop} {W0 w : World} {bs : List Blk} {ks : List Fact} (h : St F W0 w bs ks) {t size n : Nat} {v : Value} {xs : List Value} (ho : w.ownsRow 0 t size v n xs) (ht : ∀ x ∈ bs, x.2.1 ≠ t) : St F W0 w bs (own1 t size v n xs :: ks) := h.keep _ ho (h.apart ho ht)
theorem St.acts {F : Nat → Prop} {W0 w : World} {bs : List Blk} {ks : List Fact} (h : St F W0 w bs ks) {v : Value} {L : List (Ac × Value)} (ho : Acts w v L) (ht : ∀ x ∈ bs, x.2.1 ≠ 3 ∧ x.2.1 ≠ 24) : St F W0 w bs (actsF v L :: ks) :=
  h.keep _ ho (fun k hk => by
    rcases hk with hk | ⟨y, hy, hk⟩
    · exact h.apart ho.own (fun x hx => (ht x hx).2) k hk
    · exact h.apart (ho.par y hy) (fun x hx => (ht x hx).1) k hk)
theorem St.get {F : Nat → Prop} {W0 w : World} {bs : List Blk} {ks : List Fact} (h : St F W0 w bs ks) (f : Fact) (hf : f ∈ ks) : f.holds w := (h.kept f hf).1
theorem St.isNew {w0 w : World} {bs : List Blk} {ks : List Fact} (h : St (fun _ => False) w0 w bs ks) : New w0 w := h.ext
end Go.Proofs.Ytbcpbndhkainnaa
