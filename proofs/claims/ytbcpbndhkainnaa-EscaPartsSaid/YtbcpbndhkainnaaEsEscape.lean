/- A byte behind an escape. -/
import Derived.Test.YtbcpbndhkainnaaEsLast
import Derived.Outline
namespace Go.Proofs.Ytbcpbndhkainnaa
open Go.RowKit
set_option linter.unusedSimpArgs false
set_option linter.unusedVariables false
set_option maxHeartbeats 2000000 in
theorem escape_ (w : World) (s : Es) (b : Int) (a : Option Addr) (c : Nat) (hp : Ints w (.slice a s.par.length c) s.par) (hb : 0 ≤ b) (hb2 : b ≤ 255) :
    Calls Try.prog 20 #[esV s (.slice a s.par.length c), .int .u8 b] w fun e w' => REA w' e (mescape s b) ∧ New w w' := by
  have hS : St (fun _ => False) w w [] [intsF (.slice a s.par.length c) s.par] := (St.init w).own hp (by simp)
  replace hS := Lib.hid hS
  clear hp
  rcases mleave_cases s b with ⟨m, h⟩ | h
  · have e : mescape s b = (s.go m, []) := by simp [mescape, h]
    rw [e]; clear e
    replace h := Lib.hid h
    go_enter Try.func20, Try.ntmps20
    go_wp2_with (first
        | (refine wl_made hS.out ?_; intro w9 hS9; replace hS := Lib.hid hS9; clear hS9)
        | (refine wl_load1 (T := 3) hS.out (by rfl) rfl (by rfl) Try.underlying3 rfl (by repeat (first | exact At.here | apply At.there)) (by rfl) ?_)
        | (refine wl_load1 (T := 4) hS.out (by rfl) rfl (by rfl) Try.underlying4 rfl (by repeat (first | exact At.here | apply At.there)) (by rfl) ?_)
        | (refine wl_load1 (T := 22) hS.out (by rfl) rfl (by rfl) Try.underlying22 rfl (by repeat (first | exact At.here | apply At.there)) (by rfl) ?_)
        | (refine wl_loadAll (T := 33) hS.out (by rfl) rfl (by rfl) Try.underlying33 rfl Try.size33 (by repeat (first | exact At.here | apply At.there)) (by rfl) ?_)
        | (refine wl_storeAll (T := 24) hS.out (by rfl) rfl (by rfl) (by rfl) (by exact Try.size24) (by repeat (first | exact At.here | apply At.there)) (by rfl) (by rfl) ?_; intro w9 hS9; replace hS := Lib.hid hS9; clear hS9)
        | (refine wl_storeAll (T := 33) hS.out (by rfl) rfl (by rfl) (by rfl) (by exact Try.size33) (by repeat (first | exact At.here | apply At.there)) (by rfl) (by rfl) ?_; intro w9 hS9; replace hS := Lib.hid hS9; clear hS9)
        | (refine wl_store1 (v := .slice _ _ _) (T := 22) hS.out (by rfl) rfl (by rfl) (by rfl) Try.size22 (by repeat (first | exact At.here | apply At.there)) (by rfl) (by rfl) (by rfl) ?_; intro w9 hS9; simp only [List.set_cons_zero, List.set_cons_succ] at hS9; replace hS := Lib.hid hS9; clear hS9)
        | (refine wl_store1 (v := .int _ _) (T := 3) hS.out (by rfl) rfl (by rfl) (by rfl) Try.size3 (by repeat (first | exact At.here | apply At.there)) (by rfl) (by rfl) (by rfl) ?_; intro w9 hS9; simp only [List.set_cons_zero, List.set_cons_succ] at hS9; replace hS := Lib.hid hS9; clear hS9)
        | (refine wl_store1 (v := .bool _) (T := 4) hS.out (by rfl) rfl (by rfl) (by rfl) Try.size4 (by repeat (first | exact At.here | apply At.there)) (by rfl) (by rfl) (by rfl) ?_; intro w9 hS9; simp only [List.set_cons_zero, List.set_cons_succ] at hS9; replace hS := Lib.hid hS9; clear hS9)
        | (go_at_call 26; refine (leave_yes _ s b m a _ c h.out).mono ?_; rintro e w9 ⟨rfl, x⟩; replace hS := Lib.hid (hS.out.call x); clear x))
    refine bodyPost_ret (res_cell_tmp hS.out Try.results20 Try.underlying33 rfl Try.size33 (by rfl) (by repeat (first | exact At.here | apply At.there)) (by rfl) (by rfl)) rfl ?_
    exact ⟨REA.go _ s m, hS.out.isNew⟩
  · by_cases b1 : b = 91
    · subst b1
      have e : mescape s 91 = (⟨2, s.nd, s.mn, s.gt, [], -1, false, false⟩, []) := by simp [mescape, h]
      rw [e]; clear e
      replace h := Lib.hid h
      go_enter Try.func20, Try.ntmps20
      go_wp2_with (first
          | (refine wl_made hS.out ?_; intro w9 hS9; replace hS := Lib.hid hS9; clear hS9)
          | (refine wl_load1 (T := 3) hS.out (by rfl) rfl (by rfl) Try.underlying3 rfl (by repeat (first | exact At.here | apply At.there)) (by rfl) ?_)
          | (refine wl_load1 (T := 4) hS.out (by rfl) rfl (by rfl) Try.underlying4 rfl (by repeat (first | exact At.here | apply At.there)) (by rfl) ?_)
          | (refine wl_load1 (T := 22) hS.out (by rfl) rfl (by rfl) Try.underlying22 rfl (by repeat (first | exact At.here | apply At.there)) (by rfl) ?_)
          | (refine wl_loadAll (T := 33) hS.out (by rfl) rfl (by rfl) Try.underlying33 rfl Try.size33 (by repeat (first | exact At.here | apply At.there)) (by rfl) ?_)
          | (refine wl_storeAll (T := 24) hS.out (by rfl) rfl (by rfl) (by rfl) (by exact Try.size24) (by repeat (first | exact At.here | apply At.there)) (by rfl) (by rfl) ?_; intro w9 hS9; replace hS := Lib.hid hS9; clear hS9)
          | (refine wl_storeAll (T := 33) hS.out (by rfl) rfl (by rfl) (by rfl) (by exact Try.size33) (by repeat (first | exact At.here | apply At.there)) (by rfl) (by rfl) ?_; intro w9 hS9; replace hS := Lib.hid hS9; clear hS9)
          | (refine wl_store1 (v := .slice _ _ _) (T := 22) hS.out (by rfl) rfl (by rfl) (by rfl) Try.size22 (by repeat (first | exact At.here | apply At.there)) (by rfl) (by rfl) (by rfl) ?_; intro w9 hS9; simp only [List.set_cons_zero, List.set_cons_succ] at hS9; replace hS := Lib.hid hS9; clear hS9)
          | (refine wl_store1 (v := .int _ _) (T := 3) hS.out (by rfl) rfl (by rfl) (by rfl) Try.size3 (by repeat (first | exact At.here | apply At.there)) (by rfl) (by rfl) (by rfl) ?_; intro w9 hS9; simp only [List.set_cons_zero, List.set_cons_succ] at hS9; replace hS := Lib.hid hS9; clear hS9)
          | (refine wl_store1 (v := .bool _) (T := 4) hS.out (by rfl) rfl (by rfl) (by rfl) Try.size4 (by repeat (first | exact At.here | apply At.there)) (by rfl) (by rfl) (by rfl) ?_; intro w9 hS9; simp only [List.set_cons_zero, List.set_cons_succ] at hS9; replace hS := Lib.hid hS9; clear hS9)
          | (go_at_call 26; refine (leave_no _ s _ a _ c h.out).mono ?_; rintro e w9 ⟨rfl, x⟩; replace hS := Lib.hid (hS.out.call x); clear x)
          | (go_at_call 27; refine (to_ _ s 2 _ _ _).mono ?_; rintro e w9 ⟨rfl, x⟩; replace hS := Lib.hid (hS.out.call x); clear x))
      refine bodyPost_ret (res_cell_tmp hS.out Try.results20 Try.underlying33 rfl Try.size33 (by rfl) (by repeat (first | exact At.here | apply At.there)) (by rfl) (by rfl)) rfl ?_
      exact ⟨⟨none, 0, none, 0, [], rfl, Ints.nil _, Acts.nil _, rfl⟩, hS.out.isNew⟩
    · by_cases b2 : b = 93 ∨ b = 80 ∨ b = 88 ∨ b = 94 ∨ b = 95
      · have e : mescape s b = (s.go 3, []) := by simp [mescape, h, b1, b2]
        rw [e]; clear e
        rcases b2 with b2 | b2 | b2 | b2 | b2 <;> subst b2 <;> replace h := Lib.hid h <;> clear b1
        all_goals
          go_enter Try.func20, Try.ntmps20
          go_wp2_with (first
              | (refine wl_made hS.out ?_; intro w9 hS9; replace hS := Lib.hid hS9; clear hS9)
              | (refine wl_load1 (T := 3) hS.out (by rfl) rfl (by rfl) Try.underlying3 rfl (by repeat (first | exact At.here | apply At.there)) (by rfl) ?_)
              | (refine wl_load1 (T := 4) hS.out (by rfl) rfl (by rfl) Try.underlying4 rfl (by repeat (first | exact At.here | apply At.there)) (by rfl) ?_)
              | (refine wl_load1 (T := 22) hS.out (by rfl) rfl (by rfl) Try.underlying22 rfl (by repeat (first | exact At.here | apply At.there)) (by rfl) ?_)
              | (refine wl_loadAll (T := 33) hS.out (by rfl) rfl (by rfl) Try.underlying33 rfl Try.size33 (by repeat (first | exact At.here | apply At.there)) (by rfl) ?_)
              | (refine wl_storeAll (T := 24) hS.out (by rfl) rfl (by rfl) (by rfl) (by exact Try.size24) (by repeat (first | exact At.here | apply At.there)) (by rfl) (by rfl) ?_; intro w9 hS9; replace hS := Lib.hid hS9; clear hS9)
              | (refine wl_storeAll (T := 33) hS.out (by rfl) rfl (by rfl) (by rfl) (by exact Try.size33) (by repeat (first | exact At.here | apply At.there)) (by rfl) (by rfl) ?_; intro w9 hS9; replace hS := Lib.hid hS9; clear hS9)
              | (refine wl_store1 (v := .slice _ _ _) (T := 22) hS.out (by rfl) rfl (by rfl) (by rfl) Try.size22 (by repeat (first | exact At.here | apply At.there)) (by rfl) (by rfl) (by rfl) ?_; intro w9 hS9; simp only [List.set_cons_zero, List.set_cons_succ] at hS9; replace hS := Lib.hid hS9; clear hS9)
              | (refine wl_store1 (v := .int _ _) (T := 3) hS.out (by rfl) rfl (by rfl) (by rfl) Try.size3 (by repeat (first | exact At.here | apply At.there)) (by rfl) (by rfl) (by rfl) ?_; intro w9 hS9; simp only [List.set_cons_zero, List.set_cons_succ] at hS9; replace hS := Lib.hid hS9; clear hS9)
              | (refine wl_store1 (v := .bool _) (T := 4) hS.out (by rfl) rfl (by rfl) (by rfl) Try.size4 (by repeat (first | exact At.here | apply At.there)) (by rfl) (by rfl) (by rfl) ?_; intro w9 hS9; simp only [List.set_cons_zero, List.set_cons_succ] at hS9; replace hS := Lib.hid hS9; clear hS9)
              | (go_at_call 26; refine (leave_no _ s _ a _ c h.out).mono ?_; rintro e w9 ⟨rfl, x⟩; replace hS := Lib.hid (hS.out.call x); clear x)
              | (go_at_call 27; refine (to_ _ s 3 _ _ _).mono ?_; rintro e w9 ⟨rfl, x⟩; replace hS := Lib.hid (hS.out.call x); clear x))
          refine bodyPost_ret (res_cell_tmp hS.out Try.results20 Try.underlying33 rfl Try.size33 (by rfl) (by repeat (first | exact At.here | apply At.there)) (by rfl) (by rfl)) rfl ?_
          exact ⟨REA.go _ s 3, hS.out.isNew⟩
      · by_cases b3 : mwithin b 48 126 = true
        · have e : mescape s b = (s.go 0, [⟨3, b, []⟩]) := by simp [mescape, h, b1, b2, b3]
          rw [e]; clear e
          have g91 : (b == 91) = false := beq_eq_false_iff_ne.2 (by omega)
          have g93 : (b == 93) = false := beq_eq_false_iff_ne.2 (by omega)
          have g80 : (b == 80) = false := beq_eq_false_iff_ne.2 (by omega)
          have g88 : (b == 88) = false := beq_eq_false_iff_ne.2 (by omega)
          have g94 : (b == 94) = false := beq_eq_false_iff_ne.2 (by omega)
          have g95 : (b == 95) = false := beq_eq_false_iff_ne.2 (by omega)
          clear b1 b2
          replace h := Lib.hid h
          replace b3 := Lib.hid b3
          go_enter Try.func20, Try.ntmps20
          go_wp2_with (first
              | (refine wl_made hS.out ?_; intro w9 hS9; replace hS := Lib.hid hS9; clear hS9)
              | (refine wl_load1 (T := 3) hS.out (by rfl) rfl (by rfl) Try.underlying3 rfl (by repeat (first | exact At.here | apply At.there)) (by rfl) ?_)
              | (refine wl_load1 (T := 4) hS.out (by rfl) rfl (by rfl) Try.underlying4 rfl (by repeat (first | exact At.here | apply At.there)) (by rfl) ?_)
              | (refine wl_load1 (T := 22) hS.out (by rfl) rfl (by rfl) Try.underlying22 rfl (by repeat (first | exact At.here | apply At.there)) (by rfl) ?_)
              | (refine wl_loadAll (T := 33) hS.out (by rfl) rfl (by rfl) Try.underlying33 rfl Try.size33 (by repeat (first | exact At.here | apply At.there)) (by rfl) ?_)
              | (refine wl_storeAll (T := 24) hS.out (by rfl) rfl (by rfl) (by rfl) (by exact Try.size24) (by repeat (first | exact At.here | apply At.there)) (by rfl) (by rfl) ?_; intro w9 hS9; replace hS := Lib.hid hS9; clear hS9)
              | (refine wl_storeAll (T := 33) hS.out (by rfl) rfl (by rfl) (by rfl) (by exact Try.size33) (by repeat (first | exact At.here | apply At.there)) (by rfl) (by rfl) ?_; intro w9 hS9; replace hS := Lib.hid hS9; clear hS9)
              | (refine wl_store1 (v := .slice _ _ _) (T := 22) hS.out (by rfl) rfl (by rfl) (by rfl) Try.size22 (by repeat (first | exact At.here | apply At.there)) (by rfl) (by rfl) (by rfl) ?_; intro w9 hS9; simp only [List.set_cons_zero, List.set_cons_succ] at hS9; replace hS := Lib.hid hS9; clear hS9)
              | (refine wl_store1 (v := .int _ _) (T := 3) hS.out (by rfl) rfl (by rfl) (by rfl) Try.size3 (by repeat (first | exact At.here | apply At.there)) (by rfl) (by rfl) (by rfl) ?_; intro w9 hS9; simp only [List.set_cons_zero, List.set_cons_succ] at hS9; replace hS := Lib.hid hS9; clear hS9)
              | (refine wl_store1 (v := .bool _) (T := 4) hS.out (by rfl) rfl (by rfl) (by rfl) Try.size4 (by repeat (first | exact At.here | apply At.there)) (by rfl) (by rfl) (by rfl) ?_; intro w9 hS9; simp only [List.set_cons_zero, List.set_cons_succ] at hS9; replace hS := Lib.hid hS9; clear hS9)
              | (go_at_call 26; refine (leave_no _ s _ a _ c h.out).mono ?_; rintro e w9 ⟨rfl, x⟩; replace hS := Lib.hid (hS.out.call x); clear x)
              | (go_at_call_of 28 (Value.int .u8 48); refine (within_ _ _ 48 126 true b3.out).mono ?_; rintro e w' ⟨rfl, rfl⟩)
              | (go_at_call 27; refine (to_ _ s 0 _ _ _).mono ?_; rintro e w9 ⟨rfl, x⟩; replace hS := Lib.hid (hS.out.call x); clear x))
          refine bodyPost_ret (res_cell_tmp hS.out Try.results20 Try.underlying33 rfl Try.size33 (by rfl) (by repeat (first | exact At.here | apply At.there)) (by rfl) (by rfl)) rfl ?_
          exact ⟨⟨none, 0, some ⟨_, 0, none⟩, 1, [(⟨3, b, []⟩, .slice none 0 0)], rfl, Ints.nil _, Acts.row (hS.out.row (cs' := []) (bs' := _) (by repeat (first | exact At.here | apply At.there))) (Ints.nil _), rfl⟩, hS.out.isNew⟩
        · by_cases b4 : mwithin b 32 47 = true
          · have e : mescape s b = (s.go 4, []) := by simp [mescape, h, b1, b2, b3, b4]
            rw [e]; clear e
            have g91 : (b == 91) = false := beq_eq_false_iff_ne.2 (by omega)
            have g93 : (b == 93) = false := beq_eq_false_iff_ne.2 (by omega)
            have g80 : (b == 80) = false := beq_eq_false_iff_ne.2 (by omega)
            have g88 : (b == 88) = false := beq_eq_false_iff_ne.2 (by omega)
            have g94 : (b == 94) = false := beq_eq_false_iff_ne.2 (by omega)
            have g95 : (b == 95) = false := beq_eq_false_iff_ne.2 (by omega)
            clear b1 b2
            replace h := Lib.hid h
            replace b3 := Lib.hid (Bool.eq_false_iff.2 b3)
            replace b4 := Lib.hid b4
            go_enter Try.func20, Try.ntmps20
            go_wp2_with (first
                | (refine wl_made hS.out ?_; intro w9 hS9; replace hS := Lib.hid hS9; clear hS9)
                | (refine wl_load1 (T := 3) hS.out (by rfl) rfl (by rfl) Try.underlying3 rfl (by repeat (first | exact At.here | apply At.there)) (by rfl) ?_)
                | (refine wl_load1 (T := 4) hS.out (by rfl) rfl (by rfl) Try.underlying4 rfl (by repeat (first | exact At.here | apply At.there)) (by rfl) ?_)
                | (refine wl_load1 (T := 22) hS.out (by rfl) rfl (by rfl) Try.underlying22 rfl (by repeat (first | exact At.here | apply At.there)) (by rfl) ?_)
                | (refine wl_loadAll (T := 33) hS.out (by rfl) rfl (by rfl) Try.underlying33 rfl Try.size33 (by repeat (first | exact At.here | apply At.there)) (by rfl) ?_)
                | (refine wl_storeAll (T := 24) hS.out (by rfl) rfl (by rfl) (by rfl) (by exact Try.size24) (by repeat (first | exact At.here | apply At.there)) (by rfl) (by rfl) ?_; intro w9 hS9; replace hS := Lib.hid hS9; clear hS9)
                | (refine wl_storeAll (T := 33) hS.out (by rfl) rfl (by rfl) (by rfl) (by exact Try.size33) (by repeat (first | exact At.here | apply At.there)) (by rfl) (by rfl) ?_; intro w9 hS9; replace hS := Lib.hid hS9; clear hS9)
                | (refine wl_store1 (v := .slice _ _ _) (T := 22) hS.out (by rfl) rfl (by rfl) (by rfl) Try.size22 (by repeat (first | exact At.here | apply At.there)) (by rfl) (by rfl) (by rfl) ?_; intro w9 hS9; simp only [List.set_cons_zero, List.set_cons_succ] at hS9; replace hS := Lib.hid hS9; clear hS9)
                | (refine wl_store1 (v := .int _ _) (T := 3) hS.out (by rfl) rfl (by rfl) (by rfl) Try.size3 (by repeat (first | exact At.here | apply At.there)) (by rfl) (by rfl) (by rfl) ?_; intro w9 hS9; simp only [List.set_cons_zero, List.set_cons_succ] at hS9; replace hS := Lib.hid hS9; clear hS9)
                | (refine wl_store1 (v := .bool _) (T := 4) hS.out (by rfl) rfl (by rfl) (by rfl) Try.size4 (by repeat (first | exact At.here | apply At.there)) (by rfl) (by rfl) (by rfl) ?_; intro w9 hS9; simp only [List.set_cons_zero, List.set_cons_succ] at hS9; replace hS := Lib.hid hS9; clear hS9)
                | (go_at_call 26; refine (leave_no _ s _ a _ c h.out).mono ?_; rintro e w9 ⟨rfl, x⟩; replace hS := Lib.hid (hS.out.call x); clear x)
                | (go_at_call_of 28 (Value.int .u8 48); refine (within_ _ _ 48 126 false b3.out).mono ?_; rintro e w' ⟨rfl, rfl⟩)
                | (go_at_call_of 28 (Value.int .u8 32); refine (within_ _ _ 32 47 true b4.out).mono ?_; rintro e w' ⟨rfl, rfl⟩)
                | (go_at_call 27; refine (to_ _ s 4 _ _ _).mono ?_; rintro e w9 ⟨rfl, x⟩; replace hS := Lib.hid (hS.out.call x); clear x))
            refine bodyPost_ret (res_cell_tmp hS.out Try.results20 Try.underlying33 rfl Try.size33 (by rfl) (by repeat (first | exact At.here | apply At.there)) (by rfl) (by rfl)) rfl ?_
            exact ⟨REA.go _ s 4, hS.out.isNew⟩
          · by_cases b5 : b < 32
            · have e : mescape s b = (s, mcontrol b) := by simp [mescape, h, b1, b2, b3, b4, b5]
              rw [e]; clear e
              have g91 : (b == 91) = false := beq_eq_false_iff_ne.2 (by omega)
              have g93 : (b == 93) = false := beq_eq_false_iff_ne.2 (by omega)
              have g80 : (b == 80) = false := beq_eq_false_iff_ne.2 (by omega)
              have g88 : (b == 88) = false := beq_eq_false_iff_ne.2 (by omega)
              have g94 : (b == 94) = false := beq_eq_false_iff_ne.2 (by omega)
              have g95 : (b == 95) = false := beq_eq_false_iff_ne.2 (by omega)
              clear b1 b2
              replace h := Lib.hid h
              replace b3 := Lib.hid (Bool.eq_false_iff.2 b3)
              replace b4 := Lib.hid (Bool.eq_false_iff.2 b4)
              have d5 : decide (b < 32) = true := decide_eq_true b5
              go_enter Try.func20, Try.ntmps20
              go_wp2_with (first
                  | (refine wl_made hS.out ?_; intro w9 hS9; replace hS := Lib.hid hS9; clear hS9)
                  | (refine wl_load1 (T := 3) hS.out (by rfl) rfl (by rfl) Try.underlying3 rfl (by repeat (first | exact At.here | apply At.there)) (by rfl) ?_)
                  | (refine wl_load1 (T := 4) hS.out (by rfl) rfl (by rfl) Try.underlying4 rfl (by repeat (first | exact At.here | apply At.there)) (by rfl) ?_)
                  | (refine wl_load1 (T := 22) hS.out (by rfl) rfl (by rfl) Try.underlying22 rfl (by repeat (first | exact At.here | apply At.there)) (by rfl) ?_)
                  | (refine wl_loadAll (T := 33) hS.out (by rfl) rfl (by rfl) Try.underlying33 rfl Try.size33 (by repeat (first | exact At.here | apply At.there)) (by rfl) ?_)
                  | (refine wl_storeAll (T := 24) hS.out (by rfl) rfl (by rfl) (by rfl) (by exact Try.size24) (by repeat (first | exact At.here | apply At.there)) (by rfl) (by rfl) ?_; intro w9 hS9; replace hS := Lib.hid hS9; clear hS9)
                  | (refine wl_storeAll (T := 33) hS.out (by rfl) rfl (by rfl) (by rfl) (by exact Try.size33) (by repeat (first | exact At.here | apply At.there)) (by rfl) (by rfl) ?_; intro w9 hS9; replace hS := Lib.hid hS9; clear hS9)
                  | (refine wl_store1 (v := .slice _ _ _) (T := 22) hS.out (by rfl) rfl (by rfl) (by rfl) Try.size22 (by repeat (first | exact At.here | apply At.there)) (by rfl) (by rfl) (by rfl) ?_; intro w9 hS9; simp only [List.set_cons_zero, List.set_cons_succ] at hS9; replace hS := Lib.hid hS9; clear hS9)
                  | (refine wl_store1 (v := .int _ _) (T := 3) hS.out (by rfl) rfl (by rfl) (by rfl) Try.size3 (by repeat (first | exact At.here | apply At.there)) (by rfl) (by rfl) (by rfl) ?_; intro w9 hS9; simp only [List.set_cons_zero, List.set_cons_succ] at hS9; replace hS := Lib.hid hS9; clear hS9)
                  | (refine wl_store1 (v := .bool _) (T := 4) hS.out (by rfl) rfl (by rfl) (by rfl) Try.size4 (by repeat (first | exact At.here | apply At.there)) (by rfl) (by rfl) (by rfl) ?_; intro w9 hS9; simp only [List.set_cons_zero, List.set_cons_succ] at hS9; replace hS := Lib.hid hS9; clear hS9)
                  | (go_at_call 26; refine (leave_no _ s _ a _ c h.out).mono ?_; rintro e w9 ⟨rfl, x⟩; replace hS := Lib.hid (hS.out.call x); clear x)
                  | (go_at_call_of 28 (Value.int .u8 48); refine (within_ _ _ 48 126 false b3.out).mono ?_; rintro e w' ⟨rfl, rfl⟩)
                  | (go_at_call_of 28 (Value.int .u8 32); refine (within_ _ _ 32 47 false b4.out).mono ?_; rintro e w' ⟨rfl, rfl⟩))
              refine region_St1 hS.out 2 (fun _ => true) (by kernel_rfl) (by rfl) ?_
              intro w9 hR hS9; replace hS := Lib.hid hS9; clear hS9
              refine wpJ_take 0 (oi := { dst := some 62, op := Op.load 33 (Operand.tmp 2), type := 33, pos := "esca.go:87", after := #[], guard := none }) rfl (by kernel_rfl) (by kernel_rfl) (fun _ _ _ h => h) hR (y_loadAll (T := 33) (by rfl) rfl (by rfl) Try.underlying33 rfl Try.size33 (by repeat (first | exact At.here | apply At.there)) (by rfl)) (fun _ => ?_)
              try simp only [Act.put, Act.eval, Array.getD_eq_getD_getElem?, List.getElem?_toArray, List.getElem?_cons_succ, List.getElem?_cons_zero, Option.getD_some, List.setIfInBounds_toArray, List.set_cons_zero, List.set_cons_succ]
              refine wpJ_take 1 (oi := { dst := some 63, op := Op.move (Operand.tmp 1), type := 5, pos := "esca.go:87", after := #[], guard := none }) rfl (by kernel_rfl) (by kernel_rfl) (fun _ _ _ h => h) hR (y_move (by rfl) rfl (by rfl)) (fun _ => ?_)
              try simp only [Act.put, Act.eval, Array.getD_eq_getD_getElem?, List.getElem?_toArray, List.getElem?_cons_succ, List.getElem?_cons_zero, Option.getD_some, List.setIfInBounds_toArray, List.set_cons_zero, List.set_cons_succ]
              refine wpJ_one 2 (oi := { dst := some 64, op := Op.call { callee := Callee.value (Operand.func 29), args := #[Operand.tmp 63], argTypes := #[5] }, type := 27, pos := "esca.go:87", after := #[{ on := 1, ground := Ground.data }], guard := none }) rfl (by kernel_rfl) ?_
              intro K hK
              refine sw (by rfl) ?_
              refine st_fn Try.func29 (by kernel_rfl) (by kernel_rfl) rfl (by rfl) _ (control_ _ b hb hb2) ?_
              rintro e w9 ⟨⟨b2, d2, L, rfl, hL, hacs⟩, x⟩
              refine ⟨_, rfl, ?_⟩
              replace hS := Lib.hid ((hS.out.call x).acts hL (by simp)); clear x hL; replace hacs := Lib.hid hacs
              refine hK _ _ (fun _ => (by repeat (first | exact rows_nil _ | refine rows_here hS.out (by repeat (first | exact At.here | apply At.there)) ?_))) ?_
              clear hK K
              replace hR := rows_of hR w9 (by repeat (first | exact rows_nil _ | refine rows_here hS.out (by repeat (first | exact At.here | apply At.there)) ?_))
              try simp only [Act.put, Act.eval, Array.getD_eq_getD_getElem?, List.getElem?_toArray, List.getElem?_cons_succ, List.getElem?_cons_zero, Option.getD_some, List.setIfInBounds_toArray, List.set_cons_zero, List.set_cons_succ]
              refine wpJ_one 3 (oi := { dst := none, op := Op.store 33 (Operand.tmp 4) (Operand.tmp 62), type := 0, pos := "esca.go:87", after := #[{ on := 0, ground := Ground.data }, { on := 2, ground := Ground.chain }, { on := 0, ground := Ground.phase }, { on := 1, ground := Ground.textOnly Departure.lateStores }, { on := 2, ground := Ground.textOnly Departure.lateStoresUnsure }], guard := none }) rfl (by kernel_rfl) ?_
              intro K hK
              refine sw (by rfl) ?_
              refine st_storeAll (T := 33) hS.out rfl (by rfl) (by rfl) (by exact Try.size33) (by repeat (first | exact At.here | apply At.there)) (by rfl) (by rfl) ?_; intro w9 hS9; replace hS := Lib.hid hS9; clear hS9
              refine hK _ _ (fun _ => (by repeat (first | exact rows_nil _ | refine rows_here hS.out (by repeat (first | exact At.here | apply At.there)) ?_))) ?_
              clear hK K
              replace hR := rows_of hR w9 (by repeat (first | exact rows_nil _ | refine rows_here hS.out (by repeat (first | exact At.here | apply At.there)) ?_))
              try simp only [Act.put, Act.eval, Array.getD_eq_getD_getElem?, List.getElem?_toArray, List.getElem?_cons_succ, List.getElem?_cons_zero, Option.getD_some, List.setIfInBounds_toArray, List.set_cons_zero, List.set_cons_succ]
              refine wpJ_take 4 (oi := { dst := some 5, op := Op.assign (Operand.tmp 64), type := 27, pos := "esca.go:87", after := #[{ on := 2, ground := Ground.data }, { on := 3, ground := Ground.chain }, { on := 0, ground := Ground.phase }, { on := 1, ground := Ground.phase }, { on := 2, ground := Ground.phase }, { on := 3, ground := Ground.phase }], guard := none }) rfl (by kernel_rfl) (by kernel_rfl) (fun _ _ _ h => h) hR (y_assign (by rfl) rfl (by rfl)) (fun _ => ?_)
              try simp only [Act.put, Act.eval, Array.getD_eq_getD_getElem?, List.getElem?_toArray, List.getElem?_cons_succ, List.getElem?_cons_zero, Option.getD_some, List.setIfInBounds_toArray, List.set_cons_zero, List.set_cons_succ]
              refine wpJ_done _ (by kernel_rfl) ?_
              go_wp2_with fail
              refine bodyPost_ret (res_cell_tmp hS.out Try.results20 Try.underlying33 rfl Try.size33 (by rfl) (by repeat (first | exact At.here | apply At.there)) (by rfl) (by rfl)) rfl ?_
              exact ⟨⟨a, c, b2, d2, L, rfl, hS.out.get (intsF (.slice a s.par.length c) s.par) (by simp), hS.out.get (actsF (.slice b2 L.length d2) L) (by simp), hacs.out⟩, hS.out.isNew⟩
            · have e : mescape s b = (s.go 0, []) := by simp [mescape, h, b1, b2, b3, b4, b5]
              rw [e]; clear e
              have g91 : (b == 91) = false := beq_eq_false_iff_ne.2 (by omega)
              have g93 : (b == 93) = false := beq_eq_false_iff_ne.2 (by omega)
              have g80 : (b == 80) = false := beq_eq_false_iff_ne.2 (by omega)
              have g88 : (b == 88) = false := beq_eq_false_iff_ne.2 (by omega)
              have g94 : (b == 94) = false := beq_eq_false_iff_ne.2 (by omega)
              have g95 : (b == 95) = false := beq_eq_false_iff_ne.2 (by omega)
              clear b1 b2
              replace h := Lib.hid h
              replace b3 := Lib.hid (Bool.eq_false_iff.2 b3)
              replace b4 := Lib.hid (Bool.eq_false_iff.2 b4)
              have d5 : decide (b < 32) = false := decide_eq_false b5
              go_enter Try.func20, Try.ntmps20
              go_wp2_with (first
                  | (refine wl_made hS.out ?_; intro w9 hS9; replace hS := Lib.hid hS9; clear hS9)
                  | (refine wl_load1 (T := 3) hS.out (by rfl) rfl (by rfl) Try.underlying3 rfl (by repeat (first | exact At.here | apply At.there)) (by rfl) ?_)
                  | (refine wl_load1 (T := 4) hS.out (by rfl) rfl (by rfl) Try.underlying4 rfl (by repeat (first | exact At.here | apply At.there)) (by rfl) ?_)
                  | (refine wl_load1 (T := 22) hS.out (by rfl) rfl (by rfl) Try.underlying22 rfl (by repeat (first | exact At.here | apply At.there)) (by rfl) ?_)
                  | (refine wl_loadAll (T := 33) hS.out (by rfl) rfl (by rfl) Try.underlying33 rfl Try.size33 (by repeat (first | exact At.here | apply At.there)) (by rfl) ?_)
                  | (refine wl_storeAll (T := 24) hS.out (by rfl) rfl (by rfl) (by rfl) (by exact Try.size24) (by repeat (first | exact At.here | apply At.there)) (by rfl) (by rfl) ?_; intro w9 hS9; replace hS := Lib.hid hS9; clear hS9)
                  | (refine wl_storeAll (T := 33) hS.out (by rfl) rfl (by rfl) (by rfl) (by exact Try.size33) (by repeat (first | exact At.here | apply At.there)) (by rfl) (by rfl) ?_; intro w9 hS9; replace hS := Lib.hid hS9; clear hS9)
                  | (refine wl_store1 (v := .slice _ _ _) (T := 22) hS.out (by rfl) rfl (by rfl) (by rfl) Try.size22 (by repeat (first | exact At.here | apply At.there)) (by rfl) (by rfl) (by rfl) ?_; intro w9 hS9; simp only [List.set_cons_zero, List.set_cons_succ] at hS9; replace hS := Lib.hid hS9; clear hS9)
                  | (refine wl_store1 (v := .int _ _) (T := 3) hS.out (by rfl) rfl (by rfl) (by rfl) Try.size3 (by repeat (first | exact At.here | apply At.there)) (by rfl) (by rfl) (by rfl) ?_; intro w9 hS9; simp only [List.set_cons_zero, List.set_cons_succ] at hS9; replace hS := Lib.hid hS9; clear hS9)
                  | (refine wl_store1 (v := .bool _) (T := 4) hS.out (by rfl) rfl (by rfl) (by rfl) Try.size4 (by repeat (first | exact At.here | apply At.there)) (by rfl) (by rfl) (by rfl) ?_; intro w9 hS9; simp only [List.set_cons_zero, List.set_cons_succ] at hS9; replace hS := Lib.hid hS9; clear hS9)
                  | (go_at_call 26; refine (leave_no _ s _ a _ c h.out).mono ?_; rintro e w9 ⟨rfl, x⟩; replace hS := Lib.hid (hS.out.call x); clear x)
                  | (go_at_call_of 28 (Value.int .u8 48); refine (within_ _ _ 48 126 false b3.out).mono ?_; rintro e w' ⟨rfl, rfl⟩)
                  | (go_at_call_of 28 (Value.int .u8 32); refine (within_ _ _ 32 47 false b4.out).mono ?_; rintro e w' ⟨rfl, rfl⟩)
                  | (go_at_call 27; refine (to_ _ s 0 _ _ _).mono ?_; rintro e w9 ⟨rfl, x⟩; replace hS := Lib.hid (hS.out.call x); clear x))
              refine bodyPost_ret (res_cell_tmp hS.out Try.results20 Try.underlying33 rfl Try.size33 (by rfl) (by repeat (first | exact At.here | apply At.there)) (by rfl) (by rfl)) rfl ?_
              exact ⟨REA.go _ s 0, hS.out.isNew⟩
end Go.Proofs.Ytbcpbndhkainnaa
