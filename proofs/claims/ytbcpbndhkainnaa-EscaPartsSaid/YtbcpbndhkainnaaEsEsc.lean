/- The reference's comparison of escapes that are alike. -/
import Derived.Test.YtbcpbndhkainnaaEsActs
import Derived.Outline
namespace Go.Proofs.Ytbcpbndhkainnaa
open Go.RowKit
set_option linter.unusedSimpArgs false
set_option linter.unusedVariables false
set_option maxHeartbeats 2000000 in
theorem sameEsc_ (w : World) (s : Es) (a b : Option Addr) (c d : Nat) (h1 : Ints w (.slice a s.par.length c) s.par) (h2 : Ints w (.slice b s.par.length d) s.par) (hl : s.par.length ≤ 1000) :
    Calls Try.prog 15 #[esV s (.slice a s.par.length c), esV s (.slice b s.par.length d)] w fun e w' => e = .returned (.bool true) ∧ New w w' := by
  have hS : St (fun _ => False) w w [] [intsF (.slice b s.par.length d) s.par, intsF (.slice a s.par.length c) s.par] := ((St.init w).own h1 (by simp)).own h2 (by simp)
  replace hS := Lib.hid hS
  clear h1 h2
  go_enter Try.func15, Try.ntmps15
  go_wp2_with (first
    | (refine wl_made (bs := []) hS.out ?_; intro wB hS9; replace hS := Lib.hid hS9; clear hS9)
    | (refine wl_made hS.out ?_; intro w9 hS9; replace hS := Lib.hid hS9; clear hS9)
    | (refine wl_load1 (T := 3) hS.out (by rfl) rfl (by rfl) Try.underlying3 rfl (by repeat (first | exact At.here | apply At.there)) (by rfl) ?_)
    | (refine wl_load1 (T := 4) hS.out (by rfl) rfl (by rfl) Try.underlying4 rfl (by repeat (first | exact At.here | apply At.there)) (by rfl) ?_)
    | (refine wl_load1 (T := 22) hS.out (by rfl) rfl (by rfl) Try.underlying22 rfl (by repeat (first | exact At.here | apply At.there)) (by rfl) ?_)
    | (refine wl_load3 (T := 31) hS.out (by rfl) rfl (by rfl) Try.underlying31 rfl Try.size31 (by repeat (first | exact At.here | apply At.there)) (by rfl) ?_)
    | (go_at_call 19; refine (sameInts_r _ true s.par s.par a b c d (hS.out.get (intsF (.slice a s.par.length c) s.par) (by simp)) (hS.out.get (intsF (.slice b s.par.length d) s.par) (by simp)) hl hl (decide_eq_true rfl)).mono ?_; rintro e w9 ⟨rfl, x⟩; replace hS := Lib.hid (hS.out.call (x.ext _)); clear x))
  go_ret
  exact ⟨rfl, hS.out.isNew⟩
end Go.Proofs.Ytbcpbndhkainnaa
