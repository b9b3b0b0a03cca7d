/- awake of layer 18. -/
import Derived.Test.YtibpmhfompoepaaEpNew
namespace Go.Proofs.Ytibpmhfompoepaa
open Go.RowKit
set_option linter.unusedSimpArgs false
set_option linter.unusedVariables false
/-- An epoc.Epochs that was made since w0, and nothing else has turned. -/
def EpAt (w0 w : World) (g : Nat) (now : Int) (pins : List Int) (l : List (Int × Int)) : Prop :=
  ∃ F ap cp al cl, Ep w F g now pins l ap cp al cl ∧ (∀ k, F k → w0.heap.size ≤ k) ∧ Ext (fun _ => False) w0 w
section
variable {w0 w : World} {g : Nat} {now : Int} {pins : List Int} {l : List (Int × Int)}
theorem EpAt.step {F : Nat → Prop} {ap al : Option Addr} {cp cl : Nat} {w' : World} {now' : Int} {pins' : List Int} {l' : List (Int × Int)} (hF : ∀ k, F k → w0.heap.size ≤ k) (X0 : Ext (fun _ => False) w0 w) (h' : Ep w' (Gr F w w') g now' pins' l' ap cp al cl) (X : Ext F w w') : EpAt w0 w' g now' pins' l' :=
  ⟨_, _, _, _, _, h', fun k hk => by
    rcases hk with hk | hk
    · exact hF k hk
    · have := X0.size; omega, X0.then_ X (fun i hi => Or.inr (hF i hi))⟩
theorem EpAt.ext {w' : World} (h : EpAt w0 w g now pins l) (x : Ext (fun _ => False) w w') : EpAt w0 w' g now pins l := by
  obtain ⟨F, ap, cp, al, cl, h, hF, X0⟩ := h
  exact ⟨F, ap, cp, al, cl, h.ext x (fun _ _ x => x), hF, X0.trans x⟩
theorem at_pin_yes (h : EpAt w0 w g now pins l) (hp : ∀ x ∈ pins, 0 ≤ x ∧ x ≤ 1000) (hn : 0 ≤ now ∧ now ≤ 900) (i : Nat) (hok : pinOk pins i = true) :
    Calls Try.prog 6 #[.pointer (some ⟨g, 0, none⟩), .int .i64 i] w fun e w' => e = .returned (.bool true) ∧ EpAt w0 w' g now (pins.set i (now + 1)) l := by
  obtain ⟨F, ap, cp, al, cl, h, hF, X0⟩ := h
  exact (pin_yes h hp hn i hok).mono fun e w' ⟨he, h', X⟩ => ⟨he, EpAt.step hF X0 (h'.mono (fun k hk => Or.inl hk)) X⟩
theorem at_pin_no (h : EpAt w0 w g now pins l) (hp : ∀ x ∈ pins, 0 ≤ x ∧ x ≤ 1000) (t : Int) (hok : pinOk pins t = false) :
    Calls Try.prog 6 #[.pointer (some ⟨g, 0, none⟩), .int .i64 t] w fun e w' => e = .returned (.bool false) ∧ w = w' := by
  obtain ⟨F, ap, cp, al, cl, h, hF, X0⟩ := h
  exact pin_no h hp t hok
theorem at_unpin_yes (h : EpAt w0 w g now pins l) (hp : ∀ x ∈ pins, 0 ≤ x ∧ x ≤ 1000) (i : Nat) (p : Int) (hok : pinnedAt pins i = (p, true)) :
    Calls Try.prog 8 #[.pointer (some ⟨g, 0, none⟩), .int .i64 i] w fun e w' => e = .returned (.bool true) ∧ EpAt w0 w' g now (pins.set i 0) l := by
  obtain ⟨F, ap, cp, al, cl, h, hF, X0⟩ := h
  exact (unpin_yes h hp i p hok).mono fun e w' ⟨he, h', X⟩ => ⟨he, EpAt.step hF X0 (h'.mono (fun k hk => Or.inl hk)) X⟩
theorem at_unpin_no (h : EpAt w0 w g now pins l) (hp : ∀ x ∈ pins, 0 ≤ x ∧ x ≤ 1000) (t p : Int) (hok : pinnedAt pins t = (p, false)) :
    Calls Try.prog 8 #[.pointer (some ⟨g, 0, none⟩), .int .i64 t] w fun e w' => e = .returned (.bool false) ∧ w = w' := by
  obtain ⟨F, ap, cp, al, cl, h, hF, X0⟩ := h
  exact unpin_no h hp t p hok
theorem at_retire (h : EpAt w0 w g now pins l) (x : Int) (hl : l.length ≤ 1000) :
    Calls Try.prog 10 #[.pointer (some ⟨g, 0, none⟩), .int .i64 x] w fun e w' => e = .returned (.tuple #[]) ∧ EpAt w0 w' g now pins (l ++ [(x, now)]) := by
  obtain ⟨F, ap, cp, al, cl, h, hF, X0⟩ := h
  exact (retire w F g now x pins l ap cp al cl h (by omega)).mono fun e w' ⟨he, al', cl', h', X⟩ => ⟨he, EpAt.step hF X0 h' X⟩
theorem at_adv_no (h : EpAt w0 w g now pins l) (hp : ∀ x ∈ pins, 0 ≤ x ∧ x ≤ 1000) (hpl : pins.length ≤ 1000) (hcan : can now pins = false) :
    Calls Try.prog 12 #[.pointer (some ⟨g, 0, none⟩)] w fun e w' => e = .returned (.tuple #[.slice none 0 0, .bool false]) ∧ EpAt w0 w' g now pins l := by
  have h' := h
  obtain ⟨F, ap, cp, al, cl, h, hF, X0⟩ := h
  exact (advance_no h hp hpl hcan).mono fun e w' ⟨he, d⟩ => ⟨he, h'.ext (d.ext _)⟩
theorem at_adv_yes (h : EpAt w0 w g now pins l) (hp : ∀ x ∈ pins, 0 ≤ x ∧ x ≤ 1000) (hpl : pins.length ≤ 1000) (hl : l.length ≤ 1000) (hn : 0 ≤ now ∧ now ≤ 900) (hcan : can now pins = true) (n : Nat) (xs : List Int) (l' : List (Int × Int)) (h1 : gone (now + 1) l = xs) (h2 : stay (now + 1) l = l') (h3 : xs.length = n) :
    Calls Try.prog 12 #[.pointer (some ⟨g, 0, none⟩)] w fun e w' => ∃ a c, e = .returned (.tuple #[.slice a n c, .bool true]) ∧ w'.ownsRow 0 3 1 (.slice a n c) n (ints xs) ∧ EpAt w0 w' g (now + 1) pins l' := by
  obtain ⟨F, ap, cp, al, cl, h, hF, X0⟩ := h
  subst h1 h2 h3
  refine (advance_yes h hp hpl hl hn hcan).mono fun e w' ⟨v, al', cl', he, ho, h', X⟩ => ?_
  obtain ⟨a, c, rfl⟩ := own_form ho.own
  exact ⟨a, c, he, ho.own, EpAt.step hF X0 h' X⟩
theorem at_pinned (h : EpAt w0 w g now pins l) (hp : ∀ x ∈ pins, 0 ≤ x ∧ x ≤ 1000) (t : Int) (p : Int) (b : Bool) (hpb : pinnedAt pins t = (p, b)) :
    Calls Try.prog 15 #[.pointer (some ⟨g, 0, none⟩), .int .i64 t] w fun e w' => e = .returned (.tuple #[.int .i64 p, .bool b]) ∧ w = w' := by
  obtain ⟨F, ap, cp, al, cl, h, hF, X0⟩ := h
  exact pinned_ h hp t p b hpb
theorem at_now (h : EpAt w0 w g now pins l) : Calls Try.prog 16 #[.pointer (some ⟨g, 0, none⟩)] w fun e w' => e = .returned (.int .i64 now) ∧ w = w' := by
  obtain ⟨F, ap, cp, al, cl, h, hF, X0⟩ := h
  exact now_ h
theorem at_waiting (h : EpAt w0 w g now pins l) (hl : l.length ≤ 1000) (n : Nat) (hn : l.length = n) :
    Calls Try.prog 17 #[.pointer (some ⟨g, 0, none⟩)] w fun e w' => ∃ a c, e = .returned (.slice a n c) ∧ EpAt w0 w' g now pins l := by
  have h' := h
  obtain ⟨F, ap, cp, al, cl, h, hF, X0⟩ := h
  subst hn
  refine (waiting_ h hl).mono fun e w' ⟨v, he, ho, _, X⟩ => ?_
  obtain ⟨a, c, rfl⟩ := own_form ho
  exact ⟨a, c, he, h'.ext X⟩
theorem at_new (w : World) (n : Nat) (t : Int) (hn : n ≤ 100) (ht : t = n ∨ (t < 0 ∧ n = 0)) :
    Calls Try.prog 4 #[.int .i64 t] w fun e w' => ∃ g, e = .returned (.pointer (some ⟨g, 0, none⟩)) ∧ EpAt w w' g 0 (List.replicate n 0) [] :=
  (new_ w n t hn ht).mono fun e w' ⟨g, ap, cp, he, h, X⟩ => ⟨g, he, _, _, _, _, _, h, fun k hk => hk.elim (fun x => x.elim) (fun x => x.1), X⟩
end
theorem own_lit1 (W : World) (xs : List Int) (hm : xs.length ≤ 1000) :
    (W.alloc (.cells (ints xs).toArray 3)).ownsRow 0 3 1 (.slice (some ⟨W.heap.size, 0, none⟩) xs.length xs.length) xs.length (ints xs) := by
  have h := World.ownsRow_lit (base := 0) (e := 3) (size := 1) W (ints xs).toArray xs.length (Nat.zero_le _) (by unfold maxLen; omega) (by simp [ints])
  simpa using h
theorem small1 : ∀ x ∈ [(0 : Int), 0], 0 ≤ x ∧ x ≤ 1000 := by decide
theorem small2 : ∀ x ∈ [(0 : Int), 1], 0 ≤ x ∧ x ≤ 1000 := by decide
set_option maxHeartbeats 4000000 in
theorem awake_ (w : World) : Calls Try.prog 18 #[] w fun e w' => e = .returned (.bool true) ∧ Ext (fun _ => False) w w' := by
  go_enter Try.func18, Try.ntmps18
  go_wp2_with fail
  refine (at_new w 2 2 (by omega) (Or.inl rfl)).mono ?_
  rintro e w1 ⟨g, rfl, h1⟩
  go_wp2_with fail
  refine (at_pin_yes h1 small1 (by decide) 1 (by decide)).mono ?_
  rintro e w2 ⟨rfl, h2⟩
  go_wp2_with fail
  refine (at_retire h2 7 (by decide)).mono ?_
  rintro e w3 ⟨rfl, h3⟩
  go_wp2_with fail
  refine (at_adv_yes h3 small2 (by decide) (by decide) (by decide) (by decide) 0 [] [(7, 0)] (by decide) (by decide) rfl).mono ?_
  rintro e w4 ⟨a4, c4, rfl, _, h4⟩
  go_wp2_with fail
  refine (at_adv_no h4 small2 (by decide) (by decide)).mono ?_
  rintro e w5 ⟨rfl, h5⟩
  go_wp2_with fail
  refine (at_pinned h5 small2 1 0 true (by decide)).mono ?_
  rintro e w6 ⟨rfl, rfl⟩
  go_wp2_with fail
  refine (at_unpin_yes h5 small2 1 0 (by decide)).mono ?_
  rintro e w7 ⟨rfl, h7⟩
  go_wp2_with fail
  refine (at_adv_yes h7 small1 (by decide) (by decide) (by decide) (by decide) 1 [7] [] (by decide) (by decide) rfl).mono ?_
  rintro e w8 ⟨a8, c8, rfl, o8, h8⟩
  go_wp2_with fail
  have o9 := own_lit1 w8 [7] (by decide)
  refine (sameInts_ (xs := [7]) (ys := [7]) (o8.alloc _) o9 (by decide) (by decide) true (by decide)).mono ?_
  rintro e w9 ⟨rfl, d9⟩
  have h9 := h8.ext (((Ext.refl (fun _ => False) w8).alloc _).trans (d9.ext _))
  go_wp2_with fail
  refine (at_now h9).mono ?_
  rintro e w10 ⟨rfl, rfl⟩
  go_wp2_with fail
  refine (at_pin_no h9 small1 2 (by decide)).mono ?_
  rintro e w11 ⟨rfl, rfl⟩
  go_wp2_with fail
  refine (at_unpin_no h9 small1 0 0 (by decide)).mono ?_
  rintro e w12 ⟨rfl, rfl⟩
  go_wp2_with fail
  refine (at_waiting h9 (by decide) 0 rfl).mono ?_
  rintro e w13 ⟨a13, c13, rfl, h13⟩
  go_wp2_with fail
  go_ret
  obtain ⟨_, _, _, _, _, _, _, X⟩ := h13
  exact ⟨rfl, X⟩
end Go.Proofs.Ytibpmhfompoepaa
