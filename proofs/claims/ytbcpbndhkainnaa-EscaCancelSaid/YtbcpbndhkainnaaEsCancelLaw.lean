/- EscaCancel: whatever was begun, a cancel or a substitute ends it. -/
import Derived.Test.YtbcpbndhkainnaaEsCancel
namespace Go.Proofs.Ytbcpbndhkainnaa
open Go.RowKit
theorem cancel_ (w : World) (a0 : Option Addr) (len0 cap0 : Nat) (z0 : List Int) (sub : Bool) (a2 : Option Addr) (len2 cap2 : Nat) (z2 : List Int) (h0 : RdI w a0 len0 z0) (h2 : RdI w a2 len2 z2) :
    Calls Try.prog 6 #[.slice a0 len0 cap0, .bool sub, .slice a2 len2 cap2] w fun e w' => e = .returned (.bool true) ∧ Ext (fun _ => False) w w' := by
  have l0 := h0.1
  have l2 := h2.1
  obtain ⟨xs, rfl, hx, -⟩ := h0.rd
  obtain ⟨ms, rfl, hm, -⟩ := h2.rd
  obtain ⟨s1, x1, h1⟩ : ∃ s x, mfeed (mbytes xs) ez [] = (s, x) := ⟨_, _, rfl⟩
  obtain ⟨u, y3, h3⟩ : ∃ s x, mfeed (mbytes ms) ez [] = (s, x) := ⟨_, _, rfl⟩
  have hw := (wf_feed (mbytes xs) (mbytes_bd xs) ez [] ez_wf).1
  have hr := reach_feed (mbytes xs) (mbytes_bd xs) ez [] reach_ez
  rw [h1] at hw hr
  have hb : (if sub = true then (26 : Int) else 24) = 24 ∨ (if sub = true then (26 : Int) else 24) = 26 := by cases sub <;> simp
  have hf : mfeed [if sub = true then (26 : Int) else 24] s1 [] = ((mstep s1 (if sub = true then 26 else 24)).1, (mstep s1 (if sub = true then 26 else 24)).2) := rfl
  by_cases hm5 : s1.m = 5
  · obtain ⟨e1, e2⟩ := cancel_end hm5 _ hb
    rw [e2] at hf
    exact cancel_a w xs ms a0 a2 cap0 cap2 sub hx l0 s1 _ x1 h1 hw hm5 e1 hf
  · obtain ⟨e1, ⟨hn, e2⟩ | ⟨hn, e2⟩⟩ := cancel_step hr hm5 _ hb
    · rw [e1, e2] at hf
      exact cancel_b w xs ms a0 a2 cap0 cap2 sub hx l0 hm l2 s1 u x1 y3 h1 hw hm5 hn hf h3
    · rw [e1, e2] at hf
      exact cancel_c w xs ms a0 a2 cap0 cap2 sub hx l0 hm l2 s1 u x1 y3 h1 hw hm5 hn hf h3
end Go.Proofs.Ytbcpbndhkainnaa
