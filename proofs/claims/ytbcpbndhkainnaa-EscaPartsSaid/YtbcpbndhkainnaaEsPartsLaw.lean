/- EscaParts: what is fed in pieces is what is fed at once. -/
import Derived.Test.YtbcpbndhkainnaaEsParts
namespace Go.Proofs.Ytbcpbndhkainnaa
open Go.RowKit
set_option linter.unusedSimpArgs false
set_option linter.unusedVariables false
theorem parts_far (w : World) (ra la : Option Addr) (rn rc ln lc : Nat) (a b : Int) (hn : 500 < rn) :
    Calls Try.prog 7 #[.slice ra rn rc, .slice la ln lc, .int .i64 a, .int .i64 b] w fun e w' => e = .returned (.bool true) ∧ New w w' := by
  have g500 : decide ((500 : Int) < (rn : Int)) = true := decide_eq_true (by omega)
  clear hn
  go_enter Try.func7, Try.ntmps7
  go_wp2_with (go_at_call 13; refine (awake_ _).mono ?_; rintro e w9 ⟨rfl, x⟩; replace x := Lib.hid x)
  go_ret
  exact ⟨rfl, x.out⟩
theorem parts_ (w : World) (a0 : Option Addr) (len0 cap0 : Nat) (z0 : List Int) (a1 : Option Addr) (len1 cap1 : Nat) (z1 : List Int) (a b : Int) (h0 : RdB w a0 len0 z0) (h1 : RdI w a1 len1 z1)
    (ha : -9223372036854775808 ≤ a ∧ a ≤ 9223372036854775807) (hb : -9223372036854775808 ≤ b ∧ b ≤ 9223372036854775807) :
    Calls Try.prog 7 #[.slice a0 len0 cap0, .slice a1 len1 cap1, .int .i64 a, .int .i64 b] w fun e w' => e = .returned (.bool true) ∧ Ext (fun _ => False) w w' := by
  by_cases hn : 500 < len0
  · exact parts_far w a0 a1 len0 cap0 len1 cap1 a b hn
  · have l1 := h1.1
    obtain ⟨zs, rfl, hr, hz⟩ := h0.rd
    obtain ⟨xs, rfl, hx, -⟩ := h1.rd
    obtain ⟨T, hT⟩ : ∃ T, T = mbytes xs ++ zs := ⟨_, rfl⟩
    have hTb : ∀ z ∈ T, 0 ≤ z ∧ z ≤ 255 := by
      intro z h
      rw [hT] at h
      rcases List.mem_append.1 h with h | h
      · exact mbytes_bd xs z h
      · exact hz z h
    obtain ⟨s1, X1, hm⟩ : ∃ s X, mfeed T ez [] = (s, X) := ⟨_, _, rfl⟩
    have hp : (0 : Int) < (T.length : Int) + 1 := by omega
    have a1' := Int.emod_nonneg (a % 65536) (Int.ne_of_gt hp)
    have a2' := Int.emod_lt_of_pos (a % 65536) hp
    have b1' := Int.emod_nonneg (b % 65536) (Int.ne_of_gt hp)
    have b2' := Int.emod_lt_of_pos (b % 65536) hp
    obtain ⟨A, hA⟩ : ∃ A : Nat, a % 65536 % ((T.length : Int) + 1) = (A : Int) := ⟨_, (Int.toNat_of_nonneg a1').symm⟩
    obtain ⟨B, hB⟩ : ∃ B : Nat, b % 65536 % ((T.length : Int) + 1) = (B : Int) := ⟨_, (Int.toNat_of_nonneg b1').symm⟩
    rw [hA] at a2'
    rw [hB] at b2'
    have hzs : zs.length ≤ 500 := by omega
    rcases Nat.lt_trichotomy A B with h | h | h
    · exact parts_a w zs xs a0 a1 cap0 cap1 a b hr hzs hx l1 T hT hTb s1 X1 hm A B hA hB h (by omega)
    · subst h
      exact parts_e w zs xs a0 a1 cap0 cap1 a b hr hzs hx l1 T hT hTb s1 X1 hm A hA hB (by omega)
    · exact parts_b w zs xs a0 a1 cap0 cap1 a b hr hzs hx l1 T hT hTb s1 X1 hm B A hA hB h (by omega)
end Go.Proofs.Ytbcpbndhkainnaa
