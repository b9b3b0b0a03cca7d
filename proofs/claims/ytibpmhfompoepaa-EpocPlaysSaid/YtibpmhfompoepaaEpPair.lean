/- Both states side by side. -/
import Derived.Test.YtibpmhfompoepaaEpAwk
namespace Go.Proofs.Ytibpmhfompoepaa
open Go.RowKit
set_option linter.unusedSimpArgs false
set_option linter.unusedVariables false
/-- Both states, apart, made since w0. -/
def Pair (w0 w : World) (g1 g2 : Nat) (n1 : Int) (pins : List Int) (l1 : List (Int × Int)) (n2 : Int) (ps : List Int) (l2 : List (Int × Int)) : Prop :=
  ∃ F1 F2 ap cp al cl bp dp bl dl bw dw, Ep w F1 g1 n1 pins l1 ap cp al cl ∧ Rf w F2 g2 n2 ps l2 bp dp bl dl bw dw ∧ (∀ k, F1 k → ¬ F2 k) ∧ (∀ k, F1 k → w0.heap.size ≤ k ∧ k < w.heap.size) ∧ (∀ k, F2 k → w0.heap.size ≤ k ∧ k < w.heap.size) ∧ Ext (fun _ => False) w0 w
/-- .. and a row that is neither the second's. -/
def PairV (w0 w : World) (g1 g2 : Nat) (n1 : Int) (pins : List Int) (l1 : List (Int × Int)) (n2 : Int) (ps : List Int) (l2 : List (Int × Int)) (v : Value) (xs : List Int) : Prop :=
  ∃ F1 F2 ap cp al cl bp dp bl dl bw dw, Ep w F1 g1 n1 pins l1 ap cp al cl ∧ Rf w F2 g2 n2 ps l2 bp dp bl dl bw dw ∧ (∀ k, F1 k → ¬ F2 k) ∧ (∀ k, F1 k → w0.heap.size ≤ k ∧ k < w.heap.size) ∧ (∀ k, F2 k → w0.heap.size ≤ k ∧ k < w.heap.size) ∧ Ext (fun _ => False) w0 w ∧
    w.ownsRow 0 3 1 v xs.length (ints xs) ∧ ∀ k, Bk v k → ¬ F2 k
section
variable {w0 w : World} {g1 g2 : Nat} {n1 n2 : Int} {pins ps : List Int} {l1 l2 : List (Int × Int)}
theorem Pair.ext {w' : World} (h : Pair w0 w g1 g2 n1 pins l1 n2 ps l2) (x : Ext (fun _ => False) w w') : Pair w0 w' g1 g2 n1 pins l1 n2 ps l2 := by
  obtain ⟨F1, F2, ap, cp, al, cl, bp, dp, bl, dl, bw, dw, h1, h2, d, b1, b2, X⟩ := h
  exact ⟨F1, F2, ap, cp, al, cl, bp, dp, bl, dl, bw, dw, h1.ext x (fun _ _ x => x), h2.ext x (fun _ _ x => x), d, fun k e => ⟨(b1 k e).1, Nat.lt_of_lt_of_le (b1 k e).2 x.size⟩, fun k e => ⟨(b2 k e).1, Nat.lt_of_lt_of_le (b2 k e).2 x.size⟩, X.trans x⟩
theorem Pair.mkE {w' : World} {F1 F2 : Nat → Prop} {ap al bp bl bw : Option Addr} {cp cl dp dl dw : Nat} {m : Int} {pins' : List Int} {l' : List (Int × Int)} (h2 : Rf w F2 g2 n2 ps l2 bp dp bl dl bw dw) (d : ∀ k, F1 k → ¬ F2 k) (b1 : ∀ k, F1 k → w0.heap.size ≤ k ∧ k < w.heap.size) (b2 : ∀ k, F2 k → w0.heap.size ≤ k ∧ k < w.heap.size) (X0 : Ext (fun _ => False) w0 w)
    (h1 : Ep w' (Gr F1 w w') g1 m pins' l' ap cp al cl) (X : Ext F1 w w') : Pair w0 w' g1 g2 m pins' l' n2 ps l2 := by
  have s0 := X0.size
  have s1 := X.size
  refine ⟨_, F2, ap, cp, al, cl, bp, dp, bl, dl, bw, dw, h1, h2.ext X (fun k e f => d k f e), fun k e f => ?_, fun k e => ?_, fun k e => ⟨(b2 k e).1, Nat.lt_of_lt_of_le (b2 k e).2 s1⟩, X0.then_ X (fun i hi => Or.inr (b1 i hi).1)⟩
  · rcases e with e | e
    · exact d k e f
    · have := (b2 k f).2; omega
  · rcases e with e | e
    · exact ⟨(b1 k e).1, Nat.lt_of_lt_of_le (b1 k e).2 s1⟩
    · exact ⟨by omega, e.2⟩
theorem Pair.mkR {w' : World} {F1 F2 : Nat → Prop} {ap al bp bl bw : Option Addr} {cp cl dp dl dw : Nat} {m : Int} {ps' : List Int} {l' : List (Int × Int)} (h1 : Ep w F1 g1 n1 pins l1 ap cp al cl) (d : ∀ k, F1 k → ¬ F2 k) (b1 : ∀ k, F1 k → w0.heap.size ≤ k ∧ k < w.heap.size) (b2 : ∀ k, F2 k → w0.heap.size ≤ k ∧ k < w.heap.size) (X0 : Ext (fun _ => False) w0 w)
    (h2 : Rf w' (Gr F2 w w') g2 m ps' l' bp dp bl dl bw dw) (X : Ext F2 w w') : Pair w0 w' g1 g2 n1 pins l1 m ps' l' := by
  have s0 := X0.size
  have s1 := X.size
  refine ⟨F1, _, ap, cp, al, cl, bp, dp, bl, dl, bw, dw, h1.ext X (fun k e f => d k e f), h2, fun k e f => ?_, fun k e => ⟨(b1 k e).1, Nat.lt_of_lt_of_le (b1 k e).2 s1⟩, fun k e => ?_, X0.then_ X (fun i hi => Or.inr (b2 i hi).1)⟩
  · rcases f with f | f
    · exact d k e f
    · have := (b1 k e).2; omega
  · rcases e with e | e
    · exact ⟨(b2 k e).1, Nat.lt_of_lt_of_le (b2 k e).2 s1⟩
    · exact ⟨by omega, e.2⟩
theorem p_pin_yes (h : Pair w0 w g1 g2 n1 pins l1 n2 ps l2) (hp : ∀ x ∈ pins, 0 ≤ x ∧ x ≤ 1000) (hn : 0 ≤ n1 ∧ n1 ≤ 900) (i : Nat) (hok : pinOk pins i = true) :
    Calls Try.prog 6 #[.pointer (some ⟨g1, 0, none⟩), .int .i64 i] w fun e w' => e = .returned (.bool true) ∧ Pair w0 w' g1 g2 n1 (pins.set i (n1 + 1)) l1 n2 ps l2 := by
  obtain ⟨F1, F2, ap, cp, al, cl, bp, dp, bl, dl, bw, dw, h1, h2, d, b1, b2, X0⟩ := h
  exact (pin_yes h1 hp hn i hok).mono fun e w' ⟨he, h', X⟩ => ⟨he, Pair.mkE h2 d b1 b2 X0 (h'.mono (fun k hk => Or.inl hk)) X⟩
theorem p_pin_no (h : Pair w0 w g1 g2 n1 pins l1 n2 ps l2) (hp : ∀ x ∈ pins, 0 ≤ x ∧ x ≤ 1000) (t : Int) (hok : pinOk pins t = false) :
    Calls Try.prog 6 #[.pointer (some ⟨g1, 0, none⟩), .int .i64 t] w fun e w' => e = .returned (.bool false) ∧ Pair w0 w' g1 g2 n1 pins l1 n2 ps l2 := by
  have hh := h
  obtain ⟨F1, F2, ap, cp, al, cl, bp, dp, bl, dl, bw, dw, h1, h2, d, b1, b2, X0⟩ := h
  exact (pin_no h1 hp t hok).mono fun e w' ⟨he, hw⟩ => ⟨he, hw ▸ hh⟩
theorem p_unpin_yes (h : Pair w0 w g1 g2 n1 pins l1 n2 ps l2) (hp : ∀ x ∈ pins, 0 ≤ x ∧ x ≤ 1000) (i : Nat) (p : Int) (hok : pinnedAt pins i = (p, true)) :
    Calls Try.prog 8 #[.pointer (some ⟨g1, 0, none⟩), .int .i64 i] w fun e w' => e = .returned (.bool true) ∧ Pair w0 w' g1 g2 n1 (pins.set i 0) l1 n2 ps l2 := by
  obtain ⟨F1, F2, ap, cp, al, cl, bp, dp, bl, dl, bw, dw, h1, h2, d, b1, b2, X0⟩ := h
  exact (unpin_yes h1 hp i p hok).mono fun e w' ⟨he, h', X⟩ => ⟨he, Pair.mkE h2 d b1 b2 X0 (h'.mono (fun k hk => Or.inl hk)) X⟩
theorem p_unpin_no (h : Pair w0 w g1 g2 n1 pins l1 n2 ps l2) (hp : ∀ x ∈ pins, 0 ≤ x ∧ x ≤ 1000) (t p : Int) (hok : pinnedAt pins t = (p, false)) :
    Calls Try.prog 8 #[.pointer (some ⟨g1, 0, none⟩), .int .i64 t] w fun e w' => e = .returned (.bool false) ∧ Pair w0 w' g1 g2 n1 pins l1 n2 ps l2 := by
  have hh := h
  obtain ⟨F1, F2, ap, cp, al, cl, bp, dp, bl, dl, bw, dw, h1, h2, d, b1, b2, X0⟩ := h
  exact (unpin_no h1 hp t p hok).mono fun e w' ⟨he, hw⟩ => ⟨he, hw ▸ hh⟩
theorem p_retire (h : Pair w0 w g1 g2 n1 pins l1 n2 ps l2) (x : Int) (hl : l1.length ≤ 1000) :
    Calls Try.prog 10 #[.pointer (some ⟨g1, 0, none⟩), .int .i64 x] w fun e w' => e = .returned (.tuple #[]) ∧ Pair w0 w' g1 g2 n1 pins (l1 ++ [(x, n1)]) n2 ps l2 := by
  obtain ⟨F1, F2, ap, cp, al, cl, bp, dp, bl, dl, bw, dw, h1, h2, d, b1, b2, X0⟩ := h
  exact (retire w F1 g1 n1 x pins l1 ap cp al cl h1 (by omega)).mono fun e w' ⟨he, al', cl', h', X⟩ => ⟨he, Pair.mkE h2 d b1 b2 X0 h' X⟩
theorem p_rpin_yes (h : Pair w0 w g1 g2 n1 pins l1 n2 ps l2) (i : Nat) (hi : i < ps.length) (hz : ps.getD i 0 < 0) :
    Calls Try.prog 7 #[.pointer (some ⟨g2, 0, none⟩), .int .i64 i] w fun e w' => e = .returned (.bool true) ∧ Pair w0 w' g1 g2 n1 pins l1 n2 (ps.set i n2) l2 := by
  obtain ⟨F1, F2, ap, cp, al, cl, bp, dp, bl, dl, bw, dw, h1, h2, d, b1, b2, X0⟩ := h
  exact (rpin_yes h2 i hi hz).mono fun e w' ⟨he, h', X⟩ => ⟨he, Pair.mkR h1 d b1 b2 X0 (h'.mono (fun k hk => Or.inl hk)) X⟩
theorem p_rpin_no (h : Pair w0 w g1 g2 n1 pins l1 n2 ps l2) (t : Int) (ht : (t < 0 ∨ (ps.length : Int) ≤ t) ∨ ∃ i : Nat, t = i ∧ i < ps.length ∧ 0 ≤ ps.getD i 0) :
    Calls Try.prog 7 #[.pointer (some ⟨g2, 0, none⟩), .int .i64 t] w fun e w' => e = .returned (.bool false) ∧ Pair w0 w' g1 g2 n1 pins l1 n2 ps l2 := by
  have hh := h
  obtain ⟨F1, F2, ap, cp, al, cl, bp, dp, bl, dl, bw, dw, h1, h2, d, b1, b2, X0⟩ := h
  rcases ht with ht | ⟨i, rfl, hi, hz⟩
  · exact (rpin_out h2 t ht).mono fun e w' ⟨he, hd⟩ => ⟨he, hh.ext (hd.ext _)⟩
  · exact (rpin_no h2 i hi hz).mono fun e w' ⟨he, hd⟩ => ⟨he, hh.ext (hd.ext _)⟩
theorem p_runpin_yes (h : Pair w0 w g1 g2 n1 pins l1 n2 ps l2) (i : Nat) (hi : i < ps.length) (hz : 0 ≤ ps.getD i 0) :
    Calls Try.prog 9 #[.pointer (some ⟨g2, 0, none⟩), .int .i64 i] w fun e w' => e = .returned (.bool true) ∧ Pair w0 w' g1 g2 n1 pins l1 n2 (ps.set i (-1)) l2 := by
  obtain ⟨F1, F2, ap, cp, al, cl, bp, dp, bl, dl, bw, dw, h1, h2, d, b1, b2, X0⟩ := h
  exact (runpin_yes h2 i hi hz).mono fun e w' ⟨he, h', X⟩ => ⟨he, Pair.mkR h1 d b1 b2 X0 (h'.mono (fun k hk => Or.inl hk)) X⟩
theorem p_runpin_no (h : Pair w0 w g1 g2 n1 pins l1 n2 ps l2) (t : Int) (ht : (t < 0 ∨ (ps.length : Int) ≤ t) ∨ ∃ i : Nat, t = i ∧ i < ps.length ∧ ps.getD i 0 < 0) :
    Calls Try.prog 9 #[.pointer (some ⟨g2, 0, none⟩), .int .i64 t] w fun e w' => e = .returned (.bool false) ∧ Pair w0 w' g1 g2 n1 pins l1 n2 ps l2 := by
  have hh := h
  obtain ⟨F1, F2, ap, cp, al, cl, bp, dp, bl, dl, bw, dw, h1, h2, d, b1, b2, X0⟩ := h
  rcases ht with ht | ⟨i, rfl, hi, hz⟩
  · exact (runpin_out h2 t ht).mono fun e w' ⟨he, hd⟩ => ⟨he, hh.ext (hd.ext _)⟩
  · exact (runpin_no h2 i hi hz).mono fun e w' ⟨he, hd⟩ => ⟨he, hh.ext (hd.ext _)⟩
theorem p_rretire (h : Pair w0 w g1 g2 n1 pins l1 n2 ps l2) (x : Int) (hl : l2.length ≤ 1000) :
    Calls Try.prog 11 #[.pointer (some ⟨g2, 0, none⟩), .int .i64 x] w fun e w' => e = .returned (.tuple #[]) ∧ Pair w0 w' g1 g2 n1 pins l1 n2 ps (l2 ++ [(x, n2)]) := by
  obtain ⟨F1, F2, ap, cp, al, cl, bp, dp, bl, dl, bw, dw, h1, h2, d, b1, b2, X0⟩ := h
  exact (rretire h2 x hl).mono fun e w' ⟨he, al', cl', aw', cw', h', X⟩ => ⟨he, Pair.mkR h1 d b1 b2 X0 h' X⟩
theorem p_adv_no (h : Pair w0 w g1 g2 n1 pins l1 n2 ps l2) (hp : ∀ x ∈ pins, 0 ≤ x ∧ x ≤ 1000) (hpl : pins.length ≤ 1000) (hcan : can n1 pins = false) :
    Calls Try.prog 12 #[.pointer (some ⟨g1, 0, none⟩)] w fun e w' => e = .returned (.tuple #[.slice none 0 0, .bool false]) ∧ Pair w0 w' g1 g2 n1 pins l1 n2 ps l2 := by
  have hh := h
  obtain ⟨F1, F2, ap, cp, al, cl, bp, dp, bl, dl, bw, dw, h1, h2, d, b1, b2, X0⟩ := h
  exact (advance_no h1 hp hpl hcan).mono fun e w' ⟨he, hd⟩ => ⟨he, hh.ext (hd.ext _)⟩
theorem p_radv_no (h : Pair w0 w g1 g2 n1 pins l1 n2 ps l2) (hpl : ps.length ≤ 1000) (hcan : rcan n2 ps = false) :
    Calls Try.prog 13 #[.pointer (some ⟨g2, 0, none⟩)] w fun e w' => e = .returned (.tuple #[.slice none 0 0, .bool false]) ∧ Pair w0 w' g1 g2 n1 pins l1 n2 ps l2 := by
  have hh := h
  obtain ⟨F1, F2, ap, cp, al, cl, bp, dp, bl, dl, bw, dw, h1, h2, d, b1, b2, X0⟩ := h
  exact (radvance_no h2 hpl hcan).mono fun e w' ⟨he, hd⟩ => ⟨he, hh.ext (hd.ext _)⟩
theorem p_adv_yes (h : Pair w0 w g1 g2 n1 pins l1 n2 ps l2) (hp : ∀ x ∈ pins, 0 ≤ x ∧ x ≤ 1000) (hpl : pins.length ≤ 1000) (hl : l1.length ≤ 1000) (hn : 0 ≤ n1 ∧ n1 ≤ 900) (hcan : can n1 pins = true) :
    Calls Try.prog 12 #[.pointer (some ⟨g1, 0, none⟩)] w fun e w' => ∃ v, e = .returned (.tuple #[v, .bool true]) ∧ PairV w0 w' g1 g2 (n1 + 1) pins (stay (n1 + 1) l1) n2 ps l2 v (gone (n1 + 1) l1) := by
  obtain ⟨F1, F2, ap, cp, al, cl, bp, dp, bl, dl, bw, dw, h1, h2, d, b1, b2, X0⟩ := h
  refine (advance_yes h1 hp hpl hl hn hcan).mono fun e w' ⟨v, al', cl', he, ho, h', X⟩ => ⟨v, he, ?_⟩
  have s0 := X0.size
  have s1 := X.size
  refine ⟨_, F2, ap, cp, al', cl', bp, dp, bl, dl, bw, dw, h', h2.ext X (fun k e f => d k f e), fun k e f => ?_, fun k e => ?_, fun k e => ⟨(b2 k e).1, Nat.lt_of_lt_of_le (b2 k e).2 s1⟩, X0.then_ X (fun i hi => Or.inr (b1 i hi).1), ho.own, fun k e f => ?_⟩
  · rcases e with e | e
    · exact d k e f
    · have := (b2 k f).2; omega
  · rcases e with e | e
    · exact ⟨(b1 k e).1, Nat.lt_of_lt_of_le (b1 k e).2 s1⟩
    · exact ⟨by omega, e.2⟩
  · have := ho.new k e; have := (b2 k f).2; omega
theorem p_radv_yes {v : Value} {xs : List Int} (h : PairV w0 w g1 g2 n1 pins l1 n2 ps l2 v xs) (hpl : ps.length ≤ 1000) (hl : l2.length ≤ 1000) (hn : 0 ≤ n2 ∧ n2 ≤ 900) (hcan : rcan n2 ps = true) :
    Calls Try.prog 13 #[.pointer (some ⟨g2, 0, none⟩)] w fun e w' => ∃ u, e = .returned (.tuple #[u, .bool true]) ∧ Pair w0 w' g1 g2 n1 pins l1 (n2 + 1) ps (stay (n2 + 1) l2) ∧ w'.ownsRow 0 3 1 v xs.length (ints xs) ∧ w'.ownsRow 0 3 1 u (gone (n2 + 1) l2).length (ints (gone (n2 + 1) l2)) := by
  obtain ⟨F1, F2, ap, cp, al, cl, bp, dp, bl, dl, bw, dw, h1, h2, d, b1, b2, X0, ov, dv⟩ := h
  exact (radvance_yes h2 hpl hl hn hcan).mono fun e w' ⟨u, al', cl', aw', cw', he, ho, h', X⟩ => ⟨u, he, Pair.mkR h1 d b1 b2 X0 h' X, own_ext ov X dv, ho.own⟩
theorem p_pinned (h : Pair w0 w g1 g2 n1 pins l1 n2 ps l2) (hp : ∀ x ∈ pins, 0 ≤ x ∧ x ≤ 1000) (t : Int) (p : Int) (b : Bool) (hpb : pinnedAt pins t = (p, b)) :
    Calls Try.prog 15 #[.pointer (some ⟨g1, 0, none⟩), .int .i64 t] w fun e w' => e = .returned (.tuple #[.int .i64 p, .bool b]) ∧ w = w' := by
  obtain ⟨F1, F2, ap, cp, al, cl, bp, dp, bl, dl, bw, dw, h1, h2, d, b1, b2, X0⟩ := h
  exact pinned_ h1 hp t p b hpb
end
/-- What holds at the head of each round. -/
structure Inv (w0 w : World) (g1 g2 : Nat) (n : Int) (pins : List Int) (l : List (Int × Int)) (k : Nat) : Prop where
  pair : Pair w0 w g1 g2 n pins l n (pins.map (· - 1)) l
  n0 : 0 ≤ n
  n1 : n ≤ k
  ll : l.length ≤ k
  pl : pins.length ≤ 100
  pb : ∀ x ∈ pins, 0 ≤ x ∧ x ≤ k + 1
theorem Inv.big {w0 w : World} {g1 g2 : Nat} {n : Int} {pins : List Int} {l : List (Int × Int)} {k : Nat} (h : Inv w0 w g1 g2 n pins l k) (hk : k ≤ 100) : ∀ x ∈ pins, 0 ≤ x ∧ x ≤ 1000 := fun x hx => by have := h.pb x hx; omega
theorem map_getD (pins : List Int) (i : Nat) (hi : i < pins.length) : (pins.map (· - 1)).getD i 0 = pins.getD i 0 - 1 := by
  simp [List.getD_eq_getElem?_getD, hi]
theorem can_eq (n : Int) (pins : List Int) (hp : ∀ x ∈ pins, 0 ≤ x) : rcan n (pins.map (· - 1)) = can n pins := by
  unfold rcan can
  rw [List.all_map]
  rw [Bool.eq_iff_iff, List.all_eq_true, List.all_eq_true]
  constructor
  · intro h x hx
    have := h x hx
    have := hp x hx
    simp only [Function.comp, rfree1, free1, Bool.not_eq_true', Bool.and_eq_false_iff, decide_eq_false_iff_not] at *
    omega
  · intro h x hx
    have := h x hx
    have := hp x hx
    simp only [Function.comp, rfree1, free1, Bool.not_eq_true', Bool.and_eq_false_iff, decide_eq_false_iff_not] at *
    omega
end Go.Proofs.Ytibpmhfompoepaa
