/- Clone, told, last. -/
import Derived.Test.YtbcpbndhkainnaaEsUtf
import Derived.WalkSpells
namespace Go.Proofs.Ytbcpbndhkainnaa
open Go.RowKit
set_option linter.unusedSimpArgs false
set_option linter.unusedVariables false

/-- A new row of numbers. -/
def RI (w w' : World) (e : Ending) (xs : List Int) : Prop := ∃ a c, e = .returned (.slice a xs.length c) ∧ Out w w' 3 1 (.slice a xs.length c) xs.length (ints xs)
set_option maxHeartbeats 1000000 in
theorem clone_ (w : World) (xs : List Int) (a : Option Addr) (c : Nat) (hp : Ints w (.slice a xs.length c) xs) (hx : xs.length ≤ 1000) :
    Calls Try.prog 17 #[.slice a xs.length c] w fun e w' => RI w w' e xs ∧ New w w' := by
  have hp' := hp
  rcases hp'.2 with ⟨h, h0⟩ | ⟨g, cap, cur, h, _⟩
  · injection h with h1 h2 h3
    subst h1; subst h3
    have hxs : xs = [] := List.eq_nil_of_length_eq_zero h0
    subst hxs
    clear hp hp' h0 h2 hx
    have qT : ∀ (w : World) (a : Option Addr) (n c : Nat), (binOp .eql 22 (.slice a n c) (.slice none 0 0)).run Try.prog w = .ok (.bool a.isNone) w := fun w a n c => Lib.run_eql_slice_nil w 22 3 a n c 0 0 Try.underlying22
    go_enter Try.func17, Try.ntmps17
    go_wp2_with fail
    go_ret
    exact ⟨⟨none, 0, rfl, Out.nil _ _ _ _⟩, Ext.refl _ _⟩
  · injection h with h1 h2 h3
    subst h1
    have hml : 0 + xs.length ≤ maxLen := by unfold maxLen; omega
    replace hp := Lib.hid hp
    clear hp' h2 h3
    have qT : ∀ (w : World) (a : Option Addr) (n c : Nat), (binOp .eql 22 (.slice a n c) (.slice none 0 0)).run Try.prog w = .ok (.bool a.isNone) w := fun w a n c => Lib.run_eql_slice_nil w 22 3 a n c 0 0 Try.underlying22
    go_enter Try.func17, Try.ntmps17
    go_wp2_with (at_builtin; refine wp_src (w0 := _) (G := fun _ => False) rfl (.tmp 5) (.tmp 6) 22 22 3 (.int .i64 0) 1 8 rfl Try.underlying22 Try.info3 rfl (by decide) (.slice (some ⟨w.heap.size, 0, none⟩) 0 0) 0 [] rfl (own_lit_at w [] 3 1 0 _ rfl (by unfold maxLen; omega) rfl) (Ext.refl _ _) (fun _ _ h => h) (.slice (some ⟨g, 0, none⟩) xs.length c) xs.length _ rfl (Src.own Try.underlying22 (hp.out.new ((Ext.refl _ _).alloc _)) (ints_one _)) hml (by omega) ?_; intro v' w1 hown X Y hat)
    rw [Nat.zero_add, List.nil_append] at hown
    obtain ⟨a', c', rfl⟩ := own_form hown
    go_ret
    refine ⟨⟨a', c', rfl, hown, fun b hb => ?_⟩, Ext.then_ ((Ext.refl _ w).alloc _) Y (fun i hi => Or.inr ?_)⟩
    · rcases hat b hb with h | h
      · have : w.heap.size = b := by simpa [Bk, Value.ownBlock] using h
        omega
      · rw [World.size_alloc] at h; omega
    · have : w.heap.size = i := by simpa [Bk, Value.ownBlock] using hi
      omega
set_option maxHeartbeats 1000000 in
theorem told_ (w : World) (s : Es) (a : Option Addr) (c : Nat) (hp : Ints w (.slice a s.par.length c) s.par) (hl : s.par.length ≤ 16) :
    Calls Try.prog 30 #[esV s (.slice a s.par.length c)] w fun e w' => RI w w' e (mtold s) ∧ New w w' := by
  have hl2 : s.par.length ≤ 1000 := by omega
  have hml : s.par.length + 1 ≤ maxLen := by unfold maxLen; omega
  replace hp := Lib.hid hp
  by_cases h : 16 ≤ s.par.length
  · have e : mtold s = s.par := by simp [mtold, h]
    rw [e]; clear e
    have d1 : decide ((16 : Int) ≤ (s.par.length : Int)) = true := decide_eq_true (by omega)
    go_enter Try.func30, Try.ntmps30
    go_wp2_with (go_at_call 17; refine (clone_ _ s.par a c (hp.out.new ((Ext.refl _ _).alloc _)) hl2).mono ?_; rintro e w' ⟨⟨a', c', rfl, ho⟩, x⟩; have r0 := Row.ext (b := w.heap.size) (by with_reducible repeat' (first | exact row_made _ _ _ | apply row_drew | apply row_alloc)) x (fun h => h); have e0 := r0.cell; have f0 := r0.frozen; have l0 := r0.lt; replace x := Lib.hid (Ext.trans (by with_reducible repeat' (first | apply Ext.drew | apply Ext.alloc | exact Ext.refl _ _)) x); replace r0 := Lib.hid r0; replace ho := Lib.hid ho)
    go_ret
    exact ⟨⟨a', c', rfl, ho.out.own, fun b hb => by have := ho.out.new b hb; simp at this; omega⟩, x.out⟩
  · have e : mtold s = s.par ++ [s.nu] := by simp [mtold, h]
    rw [e]; clear e
    have d1 : decide ((16 : Int) ≤ (s.par.length : Int)) = false := decide_eq_false (by omega)
    go_enter Try.func30, Try.ntmps30
    go_wp2_with (first | (go_at_call 17; refine (clone_ _ s.par a c (hp.out.new ((Ext.refl _ _).alloc _)) hl2).mono ?_; rintro e w' ⟨⟨a', c', rfl, ho⟩, x⟩; have r0 := Row.ext (b := w.heap.size) (by with_reducible repeat' (first | exact row_made _ _ _ | apply row_drew | apply row_alloc)) x (fun h => h); have e0 := r0.cell; have f0 := r0.frozen; have l0 := r0.lt; replace x := Lib.hid (Ext.trans (by with_reducible repeat' (first | apply Ext.drew | apply Ext.alloc | exact Ext.refl _ _)) x); replace r0 := Lib.hid r0; replace ho := Lib.hid ho) | (at_builtin; refine wp_src (w0 := w') (G := fun _ => False) rfl (.tmp 11) (.tmp 14) 22 22 3 (.int .i64 0) 1 8 rfl Try.underlying22 Try.info3 rfl (by decide) (.slice a' s.par.length c') s.par.length _ rfl ho.out.own ((Ext.refl _ _).alloc _) (fun _ _ h => h) (.slice (some ⟨w'.heap.size, 0, none⟩) 1 1) 1 [.int .i64 s.nu] rfl (Src.own Try.underlying22 (own_lit_at w' [.int .i64 s.nu] 3 1 1 _ rfl (by unfold maxLen; omega) rfl) (by simp [Value.oneCell'])) hml (by omega) ?_; intro v' w1 hown X Y hat))
    obtain ⟨a2, c2, rfl⟩ := own_form hown
    go_ret
    have hlen : (s.par ++ [s.nu]).length = s.par.length + 1 := by simp
    have hin : ints (s.par ++ [s.nu]) = ints s.par ++ [.int .i64 s.nu] := by simp [ints]
    have hx := x.out.size
    refine ⟨⟨a2, c2, by rw [hlen]; rfl, ⟨by rw [hlen, hin]; exact hown, fun b hb => ?_⟩⟩, Ext.then_ (x.out.alloc _) Y (fun i hi => Or.inr (by have := ho.out.new i hi; simp at this; omega))⟩
    rw [hlen] at hb
    rcases hat b hb with h | h
    · have := ho.out.new b h
      simp at this; omega
    · rw [World.size_alloc] at h; omega
end Go.Proofs.Ytbcpbndhkainnaa
