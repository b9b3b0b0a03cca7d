/- A byte of a long escape. -/
import Derived.Test.YtbcpbndhkainnaaEsEscape
import Derived.Outline
namespace Go.Proofs.Ytbcpbndhkainnaa
open Go.RowKit
set_option linter.unusedSimpArgs false
set_option linter.unusedVariables false
theorem ret_num {m nd mn gt n n' : Int} {p v : Value} {pv sk : Bool} (h : n = n') : Ending.returned (.tuple #[.agg #[.int .i64 m, .int .i64 nd, .int .i64 mn, .int .i64 gt, p, .int .i64 n, .bool pv, .bool sk], v]) = .returned (.tuple #[.agg #[.int .i64 m, .int .i64 nd, .int .i64 mn, .int .i64 gt, p, .int .i64 n', .bool pv, .bool sk], v]) := by rw [h]
set_option maxHeartbeats 2000000 in
theorem csi_q_false (w : World) (m nd mn gt : Int) (par : List Int) (sk : Bool) (a : Option Addr) (c : Nat) (hp : Ints w (.slice a par.length c) par) (hl : par.length ≤ 16) (q2 : par.length = 0) :
    Calls Try.prog 21 #[esV (Es.mk m nd mn gt par (-1) false sk) (.slice a par.length c), .int .u8 63] w fun e w' => REA w' e (⟨m, nd, mn, gt, par, -1, true, sk⟩, []) ∧ New w w' := by
  have hS : St (fun _ => False) w w [] [intsF (.slice a par.length c) par] := (St.init w).own hp (by simp)
  replace hS := Lib.hid hS
  clear hp
  have hl2 : par.length ≤ 1000 := by omega
  have h : mleave (Es.mk m nd mn gt par (-1) false sk) 63 = ((Es.mk m nd mn gt par (-1) false sk), false) := by simp [mleave]
  replace h := Lib.hid h
  have b3 := Lib.hid (show mwithin 63 48 57 = false from by simp [mwithin])
  have b6 := Lib.hid (show mwithin 63 32 63 = true from by simp [mwithin])
  have gl : ((par.length : Int) == 0) = true := by simp [q2]
  have gl2 : decide (par.length = 0) = true := by simp [q2]
  have gl3 : decide (par = []) = true := by simpa using q2
  clear q2
  go_enter Try.func21, Try.ntmps21
  go_wp2_with (first
      | (refine wl_made hS.out ?_; intro w9 hS9; replace hS := Lib.hid hS9; clear hS9)
      | (refine wl_load1 (T := 3) hS.out (by rfl) rfl (by rfl) Try.underlying3 rfl (by repeat (first | exact At.here | apply At.there)) (by rfl) ?_)
      | (refine wl_load1 (T := 4) hS.out (by rfl) rfl (by rfl) Try.underlying4 rfl (by repeat (first | exact At.here | apply At.there)) (by rfl) ?_)
      | (refine wl_load1 (T := 22) hS.out (by rfl) rfl (by rfl) Try.underlying22 rfl (by repeat (first | exact At.here | apply At.there)) (by rfl) ?_)
      | (refine wl_loadAll (T := 33) hS.out (by rfl) rfl (by rfl) Try.underlying33 rfl Try.size33 (by repeat (first | exact At.here | apply At.there)) (by rfl) ?_)
      | (refine wl_storeAll (T := 24) hS.out (by rfl) rfl (by rfl) (by rfl) (by exact Try.size24) (by repeat (first | exact At.here | apply At.there)) (by rfl) (by rfl) ?_; intro w9 hS9; replace hS := Lib.hid hS9; clear hS9)
      | (refine wl_storeAll (T := 33) hS.out (by rfl) rfl (by rfl) (by rfl) (by exact Try.size33) (by repeat (first | exact At.here | apply At.there)) (by rfl) (by rfl) ?_; intro w9 hS9; replace hS := Lib.hid hS9; clear hS9)
      | (refine wl_store1 (v := .slice _ _ _) (T := 22) hS.out (by rfl) rfl (by rfl) (by rfl) Try.size22 (by repeat (first | exact At.here | apply At.there)) (by rfl) (by rfl) (by rfl) ?_; intro w9 hS9; simp only [List.set_cons_zero, List.set_cons_succ] at hS9; replace hS := Lib.hid hS9; clear hS9)
      | (refine wl_store1 (v := .int _ _) (T := 3) hS.out (by rfl) rfl (by rfl) (by rfl) Try.size3 (by repeat (first | exact At.here | apply At.there)) (by rfl) (by rfl) (by rfl) ?_; intro w9 hS9; simp only [List.set_cons_zero, List.set_cons_succ] at hS9; replace hS := Lib.hid hS9; clear hS9)
      | (refine wl_store1 (v := .bool _) (T := 4) hS.out (by rfl) rfl (by rfl) (by rfl) Try.size4 (by repeat (first | exact At.here | apply At.there)) (by rfl) (by rfl) (by rfl) ?_; intro w9 hS9; simp only [List.set_cons_zero, List.set_cons_succ] at hS9; replace hS := Lib.hid hS9; clear hS9)
      | (go_at_call 26; refine (leave_no _ (Es.mk m nd mn gt par (-1) false sk) _ a _ c h.out).mono ?_; rintro e w9 ⟨rfl, x⟩; replace hS := Lib.hid (hS.out.call x); clear x)
      | (go_at_call 17; refine (clone_ _ par a c (hS.out.get (intsF (.slice a par.length c) par) (by simp)) hl2).mono ?_; rintro e w9 ⟨⟨a', c', rfl, ho⟩, x⟩; replace hS := Lib.hid ((hS.out.call x).own ho.own (by simp)); clear x ho)
      | (go_at_call_of 28 (Value.int .u8 48); refine (within_ _ _ 48 57 false b3.out).mono ?_; rintro e w' ⟨rfl, rfl⟩)
      | (go_at_call_of 28 (Value.int .u8 32); refine (within_ _ _ 32 63 true b6.out).mono ?_; rintro e w' ⟨rfl, rfl⟩))
  refine bodyPost_ret (res_cell_tmp hS.out Try.results21 Try.underlying33 rfl Try.size33 (by rfl) (by repeat (first | exact At.here | apply At.there)) (by rfl) (by rfl)) rfl ?_
  exact ⟨⟨a', c', none, 0, [], rfl, hS.out.get (intsF (.slice a' par.length c') par) (by simp), Acts.nil _, rfl⟩, hS.out.isNew⟩
set_option maxHeartbeats 2000000 in
theorem csi_q_true (w : World) (m nd mn gt : Int) (par : List Int) (sk : Bool) (a : Option Addr) (c : Nat) (hp : Ints w (.slice a par.length c) par) (hl : par.length ≤ 16) (q2 : par.length = 0) :
    Calls Try.prog 21 #[esV (Es.mk m nd mn gt par (-1) true sk) (.slice a par.length c), .int .u8 63] w fun e w' => REA w' e (⟨m, nd, mn, gt, par, -1, true, true⟩, []) ∧ New w w' := by
  have hS : St (fun _ => False) w w [] [intsF (.slice a par.length c) par] := (St.init w).own hp (by simp)
  replace hS := Lib.hid hS
  clear hp
  have hl2 : par.length ≤ 1000 := by omega
  have h : mleave (Es.mk m nd mn gt par (-1) true sk) 63 = ((Es.mk m nd mn gt par (-1) true sk), false) := by simp [mleave]
  replace h := Lib.hid h
  have b3 := Lib.hid (show mwithin 63 48 57 = false from by simp [mwithin])
  have b6 := Lib.hid (show mwithin 63 32 63 = true from by simp [mwithin])
  have gl : ((par.length : Int) == 0) = true := by simp [q2]
  have gl2 : decide (par.length = 0) = true := by simp [q2]
  have gl3 : decide (par = []) = true := by simpa using q2
  clear q2
  go_enter Try.func21, Try.ntmps21
  go_wp2_with (first
      | (refine wl_made hS.out ?_; intro w9 hS9; replace hS := Lib.hid hS9; clear hS9)
      | (refine wl_load1 (T := 3) hS.out (by rfl) rfl (by rfl) Try.underlying3 rfl (by repeat (first | exact At.here | apply At.there)) (by rfl) ?_)
      | (refine wl_load1 (T := 4) hS.out (by rfl) rfl (by rfl) Try.underlying4 rfl (by repeat (first | exact At.here | apply At.there)) (by rfl) ?_)
      | (refine wl_load1 (T := 22) hS.out (by rfl) rfl (by rfl) Try.underlying22 rfl (by repeat (first | exact At.here | apply At.there)) (by rfl) ?_)
      | (refine wl_loadAll (T := 33) hS.out (by rfl) rfl (by rfl) Try.underlying33 rfl Try.size33 (by repeat (first | exact At.here | apply At.there)) (by rfl) ?_)
      | (refine wl_storeAll (T := 24) hS.out (by rfl) rfl (by rfl) (by rfl) (by exact Try.size24) (by repeat (first | exact At.here | apply At.there)) (by rfl) (by rfl) ?_; intro w9 hS9; replace hS := Lib.hid hS9; clear hS9)
      | (refine wl_storeAll (T := 33) hS.out (by rfl) rfl (by rfl) (by rfl) (by exact Try.size33) (by repeat (first | exact At.here | apply At.there)) (by rfl) (by rfl) ?_; intro w9 hS9; replace hS := Lib.hid hS9; clear hS9)
      | (refine wl_store1 (v := .slice _ _ _) (T := 22) hS.out (by rfl) rfl (by rfl) (by rfl) Try.size22 (by repeat (first | exact At.here | apply At.there)) (by rfl) (by rfl) (by rfl) ?_; intro w9 hS9; simp only [List.set_cons_zero, List.set_cons_succ] at hS9; replace hS := Lib.hid hS9; clear hS9)
      | (refine wl_store1 (v := .int _ _) (T := 3) hS.out (by rfl) rfl (by rfl) (by rfl) Try.size3 (by repeat (first | exact At.here | apply At.there)) (by rfl) (by rfl) (by rfl) ?_; intro w9 hS9; simp only [List.set_cons_zero, List.set_cons_succ] at hS9; replace hS := Lib.hid hS9; clear hS9)
      | (refine wl_store1 (v := .bool _) (T := 4) hS.out (by rfl) rfl (by rfl) (by rfl) Try.size4 (by repeat (first | exact At.here | apply At.there)) (by rfl) (by rfl) (by rfl) ?_; intro w9 hS9; simp only [List.set_cons_zero, List.set_cons_succ] at hS9; replace hS := Lib.hid hS9; clear hS9)
      | (go_at_call 26; refine (leave_no _ (Es.mk m nd mn gt par (-1) true sk) _ a _ c h.out).mono ?_; rintro e w9 ⟨rfl, x⟩; replace hS := Lib.hid (hS.out.call x); clear x)
      | (go_at_call 17; refine (clone_ _ par a c (hS.out.get (intsF (.slice a par.length c) par) (by simp)) hl2).mono ?_; rintro e w9 ⟨⟨a', c', rfl, ho⟩, x⟩; replace hS := Lib.hid ((hS.out.call x).own ho.own (by simp)); clear x ho)
      | (go_at_call_of 28 (Value.int .u8 48); refine (within_ _ _ 48 57 false b3.out).mono ?_; rintro e w' ⟨rfl, rfl⟩)
      | (go_at_call_of 28 (Value.int .u8 32); refine (within_ _ _ 32 63 true b6.out).mono ?_; rintro e w' ⟨rfl, rfl⟩))
  refine bodyPost_ret (res_cell_tmp hS.out Try.results21 Try.underlying33 rfl Try.size33 (by rfl) (by repeat (first | exact At.here | apply At.there)) (by rfl) (by rfl)) rfl ?_
  exact ⟨⟨a', c', none, 0, [], rfl, hS.out.get (intsF (.slice a' par.length c') par) (by simp), Acts.nil _, rfl⟩, hS.out.isNew⟩
set_option maxHeartbeats 8000000 in
theorem csi_ (w : World) (s : Es) (b : Int) (a : Option Addr) (c : Nat) (hp : Ints w (.slice a s.par.length c) s.par) (hb : 0 ≤ b) (hb2 : b ≤ 255) (hl : s.par.length ≤ 16) (hn : -1 ≤ s.nu) (hn2 : s.nu ≤ 65535) :
    Calls Try.prog 21 #[esV s (.slice a s.par.length c), .int .u8 b] w fun e w' => REA w' e (mcsi s b) ∧ New w w' := by
  have hp0 := hp
  have hS : St (fun _ => False) w w [] [intsF (.slice a s.par.length c) s.par] := (St.init w).own hp (by simp)
  replace hS := Lib.hid hS
  replace hp0 := hp0
  have hl2 : s.par.length ≤ 1000 := by omega
  rcases mleave_cases s b with ⟨m, h⟩ | h
  · have e : mcsi s b = (s.go m, []) := by simp [mcsi, h]
    rw [e]; clear e
    replace h := Lib.hid h
    go_enter Try.func21, Try.ntmps21
    go_wp2_with (first
        | (refine wl_made hS.out ?_; intro w9 hS9; replace hS := Lib.hid hS9; clear hS9)
        | (refine wl_load1 (T := 3) hS.out (by rfl) rfl (by rfl) Try.underlying3 rfl (by repeat (first | exact At.here | apply At.there)) (by rfl) ?_)
        | (refine wl_load1 (T := 4) hS.out (by rfl) rfl (by rfl) Try.underlying4 rfl (by repeat (first | exact At.here | apply At.there)) (by rfl) ?_)
        | (refine wl_load1 (T := 22) hS.out (by rfl) rfl (by rfl) Try.underlying22 rfl (by repeat (first | exact At.here | apply At.there)) (by rfl) ?_)
        | (refine wl_loadAll (T := 33) hS.out (by rfl) rfl (by rfl) Try.underlying33 rfl Try.size33 (by repeat (first | exact At.here | apply At.there)) (by rfl) ?_)
        | (refine wl_storeAll (T := 24) hS.out (by rfl) rfl (by rfl) (by rfl) (by exact Try.size24) (by repeat (first | exact At.here | apply At.there)) (by rfl) (by rfl) ?_; intro w9 hS9; replace hS := Lib.hid hS9; clear hS9)
        | (refine wl_storeAll (T := 33) hS.out (by rfl) rfl (by rfl) (by rfl) (by exact Try.size33) (by repeat (first | exact At.here | apply At.there)) (by rfl) (by rfl) ?_; intro w9 hS9; replace hS := Lib.hid hS9; clear hS9)
        | (refine wl_store1 (v := .slice _ _ _) (T := 22) hS.out (by rfl) rfl (by rfl) (by rfl) Try.size22 (by repeat (first | exact At.here | apply At.there)) (by rfl) (by rfl) (by rfl) ?_; intro w9 hS9; simp only [List.set_cons_zero, List.set_cons_succ] at hS9; replace hS := Lib.hid hS9; clear hS9)
        | (refine wl_store1 (v := .int _ _) (T := 3) hS.out (by rfl) rfl (by rfl) (by rfl) Try.size3 (by repeat (first | exact At.here | apply At.there)) (by rfl) (by rfl) (by rfl) ?_; intro w9 hS9; simp only [List.set_cons_zero, List.set_cons_succ] at hS9; replace hS := Lib.hid hS9; clear hS9)
        | (refine wl_store1 (v := .bool _) (T := 4) hS.out (by rfl) rfl (by rfl) (by rfl) Try.size4 (by repeat (first | exact At.here | apply At.there)) (by rfl) (by rfl) (by rfl) ?_; intro w9 hS9; simp only [List.set_cons_zero, List.set_cons_succ] at hS9; replace hS := Lib.hid hS9; clear hS9)
        | (go_at_call 26; refine (leave_yes _ s b m a _ c h.out).mono ?_; rintro e w9 ⟨rfl, x⟩; replace hS := Lib.hid (hS.out.call x); clear x))
    refine bodyPost_ret (res_cell_tmp hS.out Try.results21 Try.underlying33 rfl Try.size33 (by rfl) (by repeat (first | exact At.here | apply At.there)) (by rfl) (by rfl)) rfl ?_
    exact ⟨REA.go _ s m, hS.out.isNew⟩
  · by_cases b3 : mwithin b 48 57 = true
    · have e : mcsi s b = (⟨s.m, s.nd, s.mn, s.gt, s.par, min (10 * max s.nu 0 + (b - 48)) 65535, s.pv, s.sk⟩, []) := by simp [mcsi, h, b3]
      rw [e]; clear e
      obtain ⟨q1, q2⟩ : 48 ≤ b ∧ b ≤ 57 := by simpa [mwithin] using b3
      replace b3 := Lib.hid b3
      replace h := Lib.hid h
      go_enter Try.func21, Try.ntmps21
      go_wp2_with (first
          | (refine wl_made hS.out ?_; intro w9 hS9; replace hS := Lib.hid hS9; clear hS9)
          | (refine wl_load1 (T := 3) hS.out (by rfl) rfl (by rfl) Try.underlying3 rfl (by repeat (first | exact At.here | apply At.there)) (by rfl) ?_)
          | (refine wl_load1 (T := 4) hS.out (by rfl) rfl (by rfl) Try.underlying4 rfl (by repeat (first | exact At.here | apply At.there)) (by rfl) ?_)
          | (refine wl_load1 (T := 22) hS.out (by rfl) rfl (by rfl) Try.underlying22 rfl (by repeat (first | exact At.here | apply At.there)) (by rfl) ?_)
          | (refine wl_loadAll (T := 33) hS.out (by rfl) rfl (by rfl) Try.underlying33 rfl Try.size33 (by repeat (first | exact At.here | apply At.there)) (by rfl) ?_)
          | (refine wl_storeAll (T := 24) hS.out (by rfl) rfl (by rfl) (by rfl) (by exact Try.size24) (by repeat (first | exact At.here | apply At.there)) (by rfl) (by rfl) ?_; intro w9 hS9; replace hS := Lib.hid hS9; clear hS9)
          | (refine wl_storeAll (T := 33) hS.out (by rfl) rfl (by rfl) (by rfl) (by exact Try.size33) (by repeat (first | exact At.here | apply At.there)) (by rfl) (by rfl) ?_; intro w9 hS9; replace hS := Lib.hid hS9; clear hS9)
          | (refine wl_store1 (v := .slice _ _ _) (T := 22) hS.out (by rfl) rfl (by rfl) (by rfl) Try.size22 (by repeat (first | exact At.here | apply At.there)) (by rfl) (by rfl) (by rfl) ?_; intro w9 hS9; simp only [List.set_cons_zero, List.set_cons_succ] at hS9; replace hS := Lib.hid hS9; clear hS9)
          | (refine wl_store1 (v := .int _ _) (T := 3) hS.out (by rfl) rfl (by rfl) (by rfl) Try.size3 (by repeat (first | exact At.here | apply At.there)) (by rfl) (by rfl) (by rfl) ?_; intro w9 hS9; simp only [List.set_cons_zero, List.set_cons_succ] at hS9; replace hS := Lib.hid hS9; clear hS9)
          | (refine wl_store1 (v := .bool _) (T := 4) hS.out (by rfl) rfl (by rfl) (by rfl) Try.size4 (by repeat (first | exact At.here | apply At.there)) (by rfl) (by rfl) (by rfl) ?_; intro w9 hS9; simp only [List.set_cons_zero, List.set_cons_succ] at hS9; replace hS := Lib.hid hS9; clear hS9)
          | (go_at_call 26; refine (leave_no _ s _ a _ c h.out).mono ?_; rintro e w9 ⟨rfl, x⟩; replace hS := Lib.hid (hS.out.call x); clear x)
          | (go_at_call 17; refine (clone_ _ s.par a c (hS.out.get (intsF (.slice a s.par.length c) s.par) (by simp)) hl2).mono ?_; rintro e w9 ⟨⟨a', c', rfl, ho⟩, x⟩; replace hS := Lib.hid ((hS.out.call x).own ho.own (by simp)); clear x ho)
          | (go_at_call_of 28 (Value.int .u8 48); refine (within_ _ _ 48 57 true b3.out).mono ?_; rintro e w' ⟨rfl, rfl⟩))
      all_goals
        refine bodyPost_ret (res_cell_tmp hS.out Try.results21 Try.underlying33 rfl Try.size33 (by rfl) (by repeat (first | exact At.here | apply At.there)) (by rfl) (by rfl)) rfl ?_
        exact ⟨⟨a', c', none, 0, [], ret_num (by show _ = min (10 * max s.nu 0 + (b - 48)) 65535; (repeat' split) <;> omega), (hS.out.get (intsF (.slice a' s.par.length c') s.par) (by simp)), Acts.nil _, rfl⟩, hS.out.isNew⟩
    · by_cases b4 : b = 59
      · have e : mcsi s b = (⟨s.m, s.nd, s.mn, s.gt, mtold s, -1, s.pv, s.sk⟩, []) := by subst b4; simp [mcsi, h, mwithin]
        rw [e]; clear e
        replace b3 := Lib.hid (Bool.eq_false_iff.2 b3)
        have g59 : (b == 59) = true := beq_iff_eq.2 b4
        clear b4
        replace h := Lib.hid h
        go_enter Try.func21, Try.ntmps21
        go_wp2_with (first
            | (refine wl_made hS.out ?_; intro w9 hS9; replace hS := Lib.hid hS9; clear hS9)
            | (refine wl_load1 (T := 3) hS.out (by rfl) rfl (by rfl) Try.underlying3 rfl (by repeat (first | exact At.here | apply At.there)) (by rfl) ?_)
            | (refine wl_load1 (T := 4) hS.out (by rfl) rfl (by rfl) Try.underlying4 rfl (by repeat (first | exact At.here | apply At.there)) (by rfl) ?_)
            | (refine wl_load1 (T := 22) hS.out (by rfl) rfl (by rfl) Try.underlying22 rfl (by repeat (first | exact At.here | apply At.there)) (by rfl) ?_)
            | (refine wl_loadAll (T := 33) hS.out (by rfl) rfl (by rfl) Try.underlying33 rfl Try.size33 (by repeat (first | exact At.here | apply At.there)) (by rfl) ?_)
            | (refine wl_storeAll (T := 24) hS.out (by rfl) rfl (by rfl) (by rfl) (by exact Try.size24) (by repeat (first | exact At.here | apply At.there)) (by rfl) (by rfl) ?_; intro w9 hS9; replace hS := Lib.hid hS9; clear hS9)
            | (refine wl_storeAll (T := 33) hS.out (by rfl) rfl (by rfl) (by rfl) (by exact Try.size33) (by repeat (first | exact At.here | apply At.there)) (by rfl) (by rfl) ?_; intro w9 hS9; replace hS := Lib.hid hS9; clear hS9)
            | (refine wl_store1 (v := .slice _ _ _) (T := 22) hS.out (by rfl) rfl (by rfl) (by rfl) Try.size22 (by repeat (first | exact At.here | apply At.there)) (by rfl) (by rfl) (by rfl) ?_; intro w9 hS9; simp only [List.set_cons_zero, List.set_cons_succ] at hS9; replace hS := Lib.hid hS9; clear hS9)
            | (refine wl_store1 (v := .int _ _) (T := 3) hS.out (by rfl) rfl (by rfl) (by rfl) Try.size3 (by repeat (first | exact At.here | apply At.there)) (by rfl) (by rfl) (by rfl) ?_; intro w9 hS9; simp only [List.set_cons_zero, List.set_cons_succ] at hS9; replace hS := Lib.hid hS9; clear hS9)
            | (refine wl_store1 (v := .bool _) (T := 4) hS.out (by rfl) rfl (by rfl) (by rfl) Try.size4 (by repeat (first | exact At.here | apply At.there)) (by rfl) (by rfl) (by rfl) ?_; intro w9 hS9; simp only [List.set_cons_zero, List.set_cons_succ] at hS9; replace hS := Lib.hid hS9; clear hS9)
            | (go_at_call 26; refine (leave_no _ s _ a _ c h.out).mono ?_; rintro e w9 ⟨rfl, x⟩; replace hS := Lib.hid (hS.out.call x); clear x)
            | (go_at_call 17; refine (clone_ _ s.par a c (hS.out.get (intsF (.slice a s.par.length c) s.par) (by simp)) hl2).mono ?_; rintro e w9 ⟨⟨a', c', rfl, ho⟩, x⟩; replace hS := Lib.hid ((hS.out.call x).own ho.own (by simp)); clear x ho)
            | (go_at_call_of 28 (Value.int .u8 48); refine (within_ _ _ 48 57 false b3.out).mono ?_; rintro e w' ⟨rfl, rfl⟩)
            | (go_at_call 30; refine (told_ _ s a' c' (hS.out.get (intsF (.slice a' s.par.length c') s.par) (by simp)) hl).mono ?_; rintro e w9 ⟨⟨a2, c2, rfl, ho⟩, x⟩; replace hS := Lib.hid ((hS.out.call x).own ho.own (by simp)); clear x ho))
        refine bodyPost_ret (res_cell_tmp hS.out Try.results21 Try.underlying33 rfl Try.size33 (by rfl) (by repeat (first | exact At.here | apply At.there)) (by rfl) (by rfl)) rfl ?_
        exact ⟨⟨a2, c2, none, 0, [], rfl, hS.out.get (intsF (.slice a2 (mtold s).length c2) (mtold s)) (by simp), Acts.nil _, rfl⟩, hS.out.isNew⟩
      · by_cases b5 : b = 63 ∧ s.par.length = 0 ∧ s.nu = -1 ∧ s.pv = false
        · obtain ⟨q1, q2, q3, q4⟩ := b5
          subst q1
          obtain ⟨m, nd, mn, gt, par, nu, pv, sk⟩ := s
          simp only at q2 q3 q4
          subst q3 q4
          have e : mcsi (Es.mk m nd mn gt par (-1) false sk) 63 = (⟨m, nd, mn, gt, par, -1, true, sk⟩, []) := by simp [mcsi, mleave, mwithin, q2]
          rw [e]; clear e
          exact csi_q_false w m nd mn gt par sk a c hp0 hl q2
        · by_cases b6 : mwithin b 32 63 = true
          · have e : mcsi s b = (⟨s.m, s.nd, s.mn, s.gt, s.par, s.nu, s.pv, true⟩, []) := by unfold mcsi; rw [if_neg (by rw [h]; simp), if_neg b3, if_neg b4, if_neg b5, if_pos b6]
            rw [e]; clear e
            replace b3 := Lib.hid (Bool.eq_false_iff.2 b3)
            have g59 : (b == 59) = false := beq_eq_false_iff_ne.2 b4
            clear b4
            replace b6 := Lib.hid b6
            replace h := Lib.hid h
            by_cases b8 : b = 63
            · have g63 : (b == 63) = true := beq_iff_eq.2 b8
              by_cases q2 : s.par.length = 0
              · have gl : ((s.par.length : Int) == 0) = true := by simp [q2]
                have gl2 : decide (s.par.length = 0) = true := by simp [q2]
                have gl3 : decide (s.par = []) = true := by simpa using q2
                by_cases q3 : s.nu = -1
                · have q4 : s.pv = true := by
                    cases hq : s.pv with
                    | true => rfl
                    | false => exact absurd ⟨b8, q2, q3, hq⟩ b5
                  subst b8
                  obtain ⟨m, nd, mn, gt, par, nu, pv, sk⟩ := s
                  simp only at q2 q3 q4
                  subst q3 q4
                  exact csi_q_true w m nd mn gt par sk a c hp0 hl q2
                · have gn : (s.nu == -1) = false := beq_eq_false_iff_ne.2 q3
                  have gn2 : decide (s.nu = -1) = false := decide_eq_false q3
                  clear b5 b8 q2 q3
                  go_enter Try.func21, Try.ntmps21
                  go_wp2_with (first
                      | (refine wl_made hS.out ?_; intro w9 hS9; replace hS := Lib.hid hS9; clear hS9)
                      | (refine wl_load1 (T := 3) hS.out (by rfl) rfl (by rfl) Try.underlying3 rfl (by repeat (first | exact At.here | apply At.there)) (by rfl) ?_)
                      | (refine wl_load1 (T := 4) hS.out (by rfl) rfl (by rfl) Try.underlying4 rfl (by repeat (first | exact At.here | apply At.there)) (by rfl) ?_)
                      | (refine wl_load1 (T := 22) hS.out (by rfl) rfl (by rfl) Try.underlying22 rfl (by repeat (first | exact At.here | apply At.there)) (by rfl) ?_)
                      | (refine wl_loadAll (T := 33) hS.out (by rfl) rfl (by rfl) Try.underlying33 rfl Try.size33 (by repeat (first | exact At.here | apply At.there)) (by rfl) ?_)
                      | (refine wl_storeAll (T := 24) hS.out (by rfl) rfl (by rfl) (by rfl) (by exact Try.size24) (by repeat (first | exact At.here | apply At.there)) (by rfl) (by rfl) ?_; intro w9 hS9; replace hS := Lib.hid hS9; clear hS9)
                      | (refine wl_storeAll (T := 33) hS.out (by rfl) rfl (by rfl) (by rfl) (by exact Try.size33) (by repeat (first | exact At.here | apply At.there)) (by rfl) (by rfl) ?_; intro w9 hS9; replace hS := Lib.hid hS9; clear hS9)
                      | (refine wl_store1 (v := .slice _ _ _) (T := 22) hS.out (by rfl) rfl (by rfl) (by rfl) Try.size22 (by repeat (first | exact At.here | apply At.there)) (by rfl) (by rfl) (by rfl) ?_; intro w9 hS9; simp only [List.set_cons_zero, List.set_cons_succ] at hS9; replace hS := Lib.hid hS9; clear hS9)
                      | (refine wl_store1 (v := .int _ _) (T := 3) hS.out (by rfl) rfl (by rfl) (by rfl) Try.size3 (by repeat (first | exact At.here | apply At.there)) (by rfl) (by rfl) (by rfl) ?_; intro w9 hS9; simp only [List.set_cons_zero, List.set_cons_succ] at hS9; replace hS := Lib.hid hS9; clear hS9)
                      | (refine wl_store1 (v := .bool _) (T := 4) hS.out (by rfl) rfl (by rfl) (by rfl) Try.size4 (by repeat (first | exact At.here | apply At.there)) (by rfl) (by rfl) (by rfl) ?_; intro w9 hS9; simp only [List.set_cons_zero, List.set_cons_succ] at hS9; replace hS := Lib.hid hS9; clear hS9)
                      | (go_at_call 26; refine (leave_no _ s _ a _ c h.out).mono ?_; rintro e w9 ⟨rfl, x⟩; replace hS := Lib.hid (hS.out.call x); clear x)
                      | (go_at_call 17; refine (clone_ _ s.par a c (hS.out.get (intsF (.slice a s.par.length c) s.par) (by simp)) hl2).mono ?_; rintro e w9 ⟨⟨a', c', rfl, ho⟩, x⟩; replace hS := Lib.hid ((hS.out.call x).own ho.own (by simp)); clear x ho)
                      | (go_at_call_of 28 (Value.int .u8 48); refine (within_ _ _ 48 57 false b3.out).mono ?_; rintro e w' ⟨rfl, rfl⟩)
                      | (go_at_call_of 28 (Value.int .u8 32); refine (within_ _ _ 32 63 true b6.out).mono ?_; rintro e w' ⟨rfl, rfl⟩))
                  refine bodyPost_ret (res_cell_tmp hS.out Try.results21 Try.underlying33 rfl Try.size33 (by rfl) (by repeat (first | exact At.here | apply At.there)) (by rfl) (by rfl)) rfl ?_
                  exact ⟨⟨a', c', none, 0, [], rfl, (hS.out.get (intsF (.slice a' s.par.length c') s.par) (by simp)), Acts.nil _, rfl⟩, hS.out.isNew⟩
              · have gl : ((s.par.length : Int) == 0) = false := by simpa using q2
                have gl2 : decide (s.par.length = 0) = false := decide_eq_false q2
                have gl3 : decide (s.par = []) = false := by simpa using q2
                clear b5 b8 q2
                go_enter Try.func21, Try.ntmps21
                go_wp2_with (first
                    | (refine wl_made hS.out ?_; intro w9 hS9; replace hS := Lib.hid hS9; clear hS9)
                    | (refine wl_load1 (T := 3) hS.out (by rfl) rfl (by rfl) Try.underlying3 rfl (by repeat (first | exact At.here | apply At.there)) (by rfl) ?_)
                    | (refine wl_load1 (T := 4) hS.out (by rfl) rfl (by rfl) Try.underlying4 rfl (by repeat (first | exact At.here | apply At.there)) (by rfl) ?_)
                    | (refine wl_load1 (T := 22) hS.out (by rfl) rfl (by rfl) Try.underlying22 rfl (by repeat (first | exact At.here | apply At.there)) (by rfl) ?_)
                    | (refine wl_loadAll (T := 33) hS.out (by rfl) rfl (by rfl) Try.underlying33 rfl Try.size33 (by repeat (first | exact At.here | apply At.there)) (by rfl) ?_)
                    | (refine wl_storeAll (T := 24) hS.out (by rfl) rfl (by rfl) (by rfl) (by exact Try.size24) (by repeat (first | exact At.here | apply At.there)) (by rfl) (by rfl) ?_; intro w9 hS9; replace hS := Lib.hid hS9; clear hS9)
                    | (refine wl_storeAll (T := 33) hS.out (by rfl) rfl (by rfl) (by rfl) (by exact Try.size33) (by repeat (first | exact At.here | apply At.there)) (by rfl) (by rfl) ?_; intro w9 hS9; replace hS := Lib.hid hS9; clear hS9)
                    | (refine wl_store1 (v := .slice _ _ _) (T := 22) hS.out (by rfl) rfl (by rfl) (by rfl) Try.size22 (by repeat (first | exact At.here | apply At.there)) (by rfl) (by rfl) (by rfl) ?_; intro w9 hS9; simp only [List.set_cons_zero, List.set_cons_succ] at hS9; replace hS := Lib.hid hS9; clear hS9)
                    | (refine wl_store1 (v := .int _ _) (T := 3) hS.out (by rfl) rfl (by rfl) (by rfl) Try.size3 (by repeat (first | exact At.here | apply At.there)) (by rfl) (by rfl) (by rfl) ?_; intro w9 hS9; simp only [List.set_cons_zero, List.set_cons_succ] at hS9; replace hS := Lib.hid hS9; clear hS9)
                    | (refine wl_store1 (v := .bool _) (T := 4) hS.out (by rfl) rfl (by rfl) (by rfl) Try.size4 (by repeat (first | exact At.here | apply At.there)) (by rfl) (by rfl) (by rfl) ?_; intro w9 hS9; simp only [List.set_cons_zero, List.set_cons_succ] at hS9; replace hS := Lib.hid hS9; clear hS9)
                    | (go_at_call 26; refine (leave_no _ s _ a _ c h.out).mono ?_; rintro e w9 ⟨rfl, x⟩; replace hS := Lib.hid (hS.out.call x); clear x)
                    | (go_at_call 17; refine (clone_ _ s.par a c (hS.out.get (intsF (.slice a s.par.length c) s.par) (by simp)) hl2).mono ?_; rintro e w9 ⟨⟨a', c', rfl, ho⟩, x⟩; replace hS := Lib.hid ((hS.out.call x).own ho.own (by simp)); clear x ho)
                    | (go_at_call_of 28 (Value.int .u8 48); refine (within_ _ _ 48 57 false b3.out).mono ?_; rintro e w' ⟨rfl, rfl⟩)
                    | (go_at_call_of 28 (Value.int .u8 32); refine (within_ _ _ 32 63 true b6.out).mono ?_; rintro e w' ⟨rfl, rfl⟩))
                refine bodyPost_ret (res_cell_tmp hS.out Try.results21 Try.underlying33 rfl Try.size33 (by rfl) (by repeat (first | exact At.here | apply At.there)) (by rfl) (by rfl)) rfl ?_
                exact ⟨⟨a', c', none, 0, [], rfl, (hS.out.get (intsF (.slice a' s.par.length c') s.par) (by simp)), Acts.nil _, rfl⟩, hS.out.isNew⟩
            · have g63 : (b == 63) = false := beq_eq_false_iff_ne.2 b8
              clear b5 b8
              go_enter Try.func21, Try.ntmps21
              go_wp2_with (first
                  | (refine wl_made hS.out ?_; intro w9 hS9; replace hS := Lib.hid hS9; clear hS9)
                  | (refine wl_load1 (T := 3) hS.out (by rfl) rfl (by rfl) Try.underlying3 rfl (by repeat (first | exact At.here | apply At.there)) (by rfl) ?_)
                  | (refine wl_load1 (T := 4) hS.out (by rfl) rfl (by rfl) Try.underlying4 rfl (by repeat (first | exact At.here | apply At.there)) (by rfl) ?_)
                  | (refine wl_load1 (T := 22) hS.out (by rfl) rfl (by rfl) Try.underlying22 rfl (by repeat (first | exact At.here | apply At.there)) (by rfl) ?_)
                  | (refine wl_loadAll (T := 33) hS.out (by rfl) rfl (by rfl) Try.underlying33 rfl Try.size33 (by repeat (first | exact At.here | apply At.there)) (by rfl) ?_)
                  | (refine wl_storeAll (T := 24) hS.out (by rfl) rfl (by rfl) (by rfl) (by exact Try.size24) (by repeat (first | exact At.here | apply At.there)) (by rfl) (by rfl) ?_; intro w9 hS9; replace hS := Lib.hid hS9; clear hS9)
                  | (refine wl_storeAll (T := 33) hS.out (by rfl) rfl (by rfl) (by rfl) (by exact Try.size33) (by repeat (first | exact At.here | apply At.there)) (by rfl) (by rfl) ?_; intro w9 hS9; replace hS := Lib.hid hS9; clear hS9)
                  | (refine wl_store1 (v := .slice _ _ _) (T := 22) hS.out (by rfl) rfl (by rfl) (by rfl) Try.size22 (by repeat (first | exact At.here | apply At.there)) (by rfl) (by rfl) (by rfl) ?_; intro w9 hS9; simp only [List.set_cons_zero, List.set_cons_succ] at hS9; replace hS := Lib.hid hS9; clear hS9)
                  | (refine wl_store1 (v := .int _ _) (T := 3) hS.out (by rfl) rfl (by rfl) (by rfl) Try.size3 (by repeat (first | exact At.here | apply At.there)) (by rfl) (by rfl) (by rfl) ?_; intro w9 hS9; simp only [List.set_cons_zero, List.set_cons_succ] at hS9; replace hS := Lib.hid hS9; clear hS9)
                  | (refine wl_store1 (v := .bool _) (T := 4) hS.out (by rfl) rfl (by rfl) (by rfl) Try.size4 (by repeat (first | exact At.here | apply At.there)) (by rfl) (by rfl) (by rfl) ?_; intro w9 hS9; simp only [List.set_cons_zero, List.set_cons_succ] at hS9; replace hS := Lib.hid hS9; clear hS9)
                  | (go_at_call 26; refine (leave_no _ s _ a _ c h.out).mono ?_; rintro e w9 ⟨rfl, x⟩; replace hS := Lib.hid (hS.out.call x); clear x)
                  | (go_at_call 17; refine (clone_ _ s.par a c (hS.out.get (intsF (.slice a s.par.length c) s.par) (by simp)) hl2).mono ?_; rintro e w9 ⟨⟨a', c', rfl, ho⟩, x⟩; replace hS := Lib.hid ((hS.out.call x).own ho.own (by simp)); clear x ho)
                  | (go_at_call_of 28 (Value.int .u8 48); refine (within_ _ _ 48 57 false b3.out).mono ?_; rintro e w' ⟨rfl, rfl⟩)
                  | (go_at_call_of 28 (Value.int .u8 32); refine (within_ _ _ 32 63 true b6.out).mono ?_; rintro e w' ⟨rfl, rfl⟩))
              refine bodyPost_ret (res_cell_tmp hS.out Try.results21 Try.underlying33 rfl Try.size33 (by rfl) (by repeat (first | exact At.here | apply At.there)) (by rfl) (by rfl)) rfl ?_
              exact ⟨⟨a', c', none, 0, [], rfl, (hS.out.get (intsF (.slice a' s.par.length c') s.par) (by simp)), Acts.nil _, rfl⟩, hS.out.isNew⟩
          · have b8 : b ≠ 63 := by
              intro e; subst e; simp [mwithin] at b6
            have g63 : (b == 63) = false := beq_eq_false_iff_ne.2 b8
            by_cases b7 : mwithin b 64 126 = true
            · have e : mcsi s b = mlast s b := by unfold mcsi; rw [if_neg (by rw [h]; simp), if_neg b3, if_neg b4, if_neg b5, if_neg b6, if_pos b7]
              rw [e]; clear e
              replace b3 := Lib.hid (Bool.eq_false_iff.2 b3)
              have g59 : (b == 59) = false := beq_eq_false_iff_ne.2 b4
              clear b4 b5 b8
              replace b6 := Lib.hid (Bool.eq_false_iff.2 b6)
              replace b7 := Lib.hid b7
              replace h := Lib.hid h
              go_enter Try.func21, Try.ntmps21
              go_wp2_with (first
                  | (refine wl_made hS.out ?_; intro w9 hS9; replace hS := Lib.hid hS9; clear hS9)
                  | (refine wl_load1 (T := 3) hS.out (by rfl) rfl (by rfl) Try.underlying3 rfl (by repeat (first | exact At.here | apply At.there)) (by rfl) ?_)
                  | (refine wl_load1 (T := 4) hS.out (by rfl) rfl (by rfl) Try.underlying4 rfl (by repeat (first | exact At.here | apply At.there)) (by rfl) ?_)
                  | (refine wl_load1 (T := 22) hS.out (by rfl) rfl (by rfl) Try.underlying22 rfl (by repeat (first | exact At.here | apply At.there)) (by rfl) ?_)
                  | (refine wl_loadAll (T := 33) hS.out (by rfl) rfl (by rfl) Try.underlying33 rfl Try.size33 (by repeat (first | exact At.here | apply At.there)) (by rfl) ?_)
                  | (refine wl_storeAll (T := 24) hS.out (by rfl) rfl (by rfl) (by rfl) (by exact Try.size24) (by repeat (first | exact At.here | apply At.there)) (by rfl) (by rfl) ?_; intro w9 hS9; replace hS := Lib.hid hS9; clear hS9)
                  | (refine wl_storeAll (T := 33) hS.out (by rfl) rfl (by rfl) (by rfl) (by exact Try.size33) (by repeat (first | exact At.here | apply At.there)) (by rfl) (by rfl) ?_; intro w9 hS9; replace hS := Lib.hid hS9; clear hS9)
                  | (refine wl_store1 (v := .slice _ _ _) (T := 22) hS.out (by rfl) rfl (by rfl) (by rfl) Try.size22 (by repeat (first | exact At.here | apply At.there)) (by rfl) (by rfl) (by rfl) ?_; intro w9 hS9; simp only [List.set_cons_zero, List.set_cons_succ] at hS9; replace hS := Lib.hid hS9; clear hS9)
                  | (refine wl_store1 (v := .int _ _) (T := 3) hS.out (by rfl) rfl (by rfl) (by rfl) Try.size3 (by repeat (first | exact At.here | apply At.there)) (by rfl) (by rfl) (by rfl) ?_; intro w9 hS9; simp only [List.set_cons_zero, List.set_cons_succ] at hS9; replace hS := Lib.hid hS9; clear hS9)
                  | (refine wl_store1 (v := .bool _) (T := 4) hS.out (by rfl) rfl (by rfl) (by rfl) Try.size4 (by repeat (first | exact At.here | apply At.there)) (by rfl) (by rfl) (by rfl) ?_; intro w9 hS9; simp only [List.set_cons_zero, List.set_cons_succ] at hS9; replace hS := Lib.hid hS9; clear hS9)
                  | (go_at_call 26; refine (leave_no _ s _ a _ c h.out).mono ?_; rintro e w9 ⟨rfl, x⟩; replace hS := Lib.hid (hS.out.call x); clear x)
                  | (go_at_call 17; refine (clone_ _ s.par a c (hS.out.get (intsF (.slice a s.par.length c) s.par) (by simp)) hl2).mono ?_; rintro e w9 ⟨⟨a', c', rfl, ho⟩, x⟩; replace hS := Lib.hid ((hS.out.call x).own ho.own (by simp)); clear x ho)
                  | (go_at_call_of 28 (Value.int .u8 48); refine (within_ _ _ 48 57 false b3.out).mono ?_; rintro e w' ⟨rfl, rfl⟩)
                  | (go_at_call_of 28 (Value.int .u8 32); refine (within_ _ _ 32 63 false b6.out).mono ?_; rintro e w' ⟨rfl, rfl⟩)
                  | (go_at_call_of 28 (Value.int .u8 64); refine (within_ _ _ 64 126 true b7.out).mono ?_; rintro e w' ⟨rfl, rfl⟩)
                  | (go_at_call 31; refine (last_ _ s b a' c' (hS.out.get (intsF (.slice a' s.par.length c') s.par) (by simp)) hb hb2 hl).mono ?_; rintro e w9 ⟨⟨a2, c2, b2, d2, L, rfl, hI, hL, hacs⟩, x⟩; replace hS := Lib.hid (((hS.out.call x).own hI (by simp)).acts hL (by simp)); clear x hI hL; replace hacs := Lib.hid hacs))
              refine bodyPost_ret (res_cell_tmp hS.out Try.results21 Try.underlying33 rfl Try.size33 (by rfl) (by repeat (first | exact At.here | apply At.there)) (by rfl) (by rfl)) rfl ?_
              exact ⟨⟨a2, c2, b2, d2, L, rfl, hS.out.get (intsF (.slice a2 (mlast s b).1.par.length c2) (mlast s b).1.par) (by simp), hS.out.get (actsF (.slice b2 L.length d2) L) (by simp), hacs.out⟩, hS.out.isNew⟩
            · by_cases b9 : b < 32
              · have e : mcsi s b = (s, mcontrol b) := by unfold mcsi; rw [if_neg (by rw [h]; simp), if_neg b3, if_neg b4, if_neg b5, if_neg b6, if_neg b7, if_pos b9]
                rw [e]; clear e
                replace b3 := Lib.hid (Bool.eq_false_iff.2 b3)
                have g59 : (b == 59) = false := beq_eq_false_iff_ne.2 b4
                clear b4 b5 b8
                replace b6 := Lib.hid (Bool.eq_false_iff.2 b6)
                replace b7 := Lib.hid (Bool.eq_false_iff.2 b7)
                have d9 : decide (b < 32) = true := decide_eq_true b9
                replace h := Lib.hid h
                go_enter Try.func21, Try.ntmps21
                go_wp2_with (first
                    | (refine wl_made hS.out ?_; intro w9 hS9; replace hS := Lib.hid hS9; clear hS9)
                    | (refine wl_load1 (T := 3) hS.out (by rfl) rfl (by rfl) Try.underlying3 rfl (by repeat (first | exact At.here | apply At.there)) (by rfl) ?_)
                    | (refine wl_load1 (T := 4) hS.out (by rfl) rfl (by rfl) Try.underlying4 rfl (by repeat (first | exact At.here | apply At.there)) (by rfl) ?_)
                    | (refine wl_load1 (T := 22) hS.out (by rfl) rfl (by rfl) Try.underlying22 rfl (by repeat (first | exact At.here | apply At.there)) (by rfl) ?_)
                    | (refine wl_loadAll (T := 33) hS.out (by rfl) rfl (by rfl) Try.underlying33 rfl Try.size33 (by repeat (first | exact At.here | apply At.there)) (by rfl) ?_)
                    | (refine wl_storeAll (T := 24) hS.out (by rfl) rfl (by rfl) (by rfl) (by exact Try.size24) (by repeat (first | exact At.here | apply At.there)) (by rfl) (by rfl) ?_; intro w9 hS9; replace hS := Lib.hid hS9; clear hS9)
                    | (refine wl_storeAll (T := 33) hS.out (by rfl) rfl (by rfl) (by rfl) (by exact Try.size33) (by repeat (first | exact At.here | apply At.there)) (by rfl) (by rfl) ?_; intro w9 hS9; replace hS := Lib.hid hS9; clear hS9)
                    | (refine wl_store1 (v := .slice _ _ _) (T := 22) hS.out (by rfl) rfl (by rfl) (by rfl) Try.size22 (by repeat (first | exact At.here | apply At.there)) (by rfl) (by rfl) (by rfl) ?_; intro w9 hS9; simp only [List.set_cons_zero, List.set_cons_succ] at hS9; replace hS := Lib.hid hS9; clear hS9)
                    | (refine wl_store1 (v := .int _ _) (T := 3) hS.out (by rfl) rfl (by rfl) (by rfl) Try.size3 (by repeat (first | exact At.here | apply At.there)) (by rfl) (by rfl) (by rfl) ?_; intro w9 hS9; simp only [List.set_cons_zero, List.set_cons_succ] at hS9; replace hS := Lib.hid hS9; clear hS9)
                    | (refine wl_store1 (v := .bool _) (T := 4) hS.out (by rfl) rfl (by rfl) (by rfl) Try.size4 (by repeat (first | exact At.here | apply At.there)) (by rfl) (by rfl) (by rfl) ?_; intro w9 hS9; simp only [List.set_cons_zero, List.set_cons_succ] at hS9; replace hS := Lib.hid hS9; clear hS9)
                    | (go_at_call 26; refine (leave_no _ s _ a _ c h.out).mono ?_; rintro e w9 ⟨rfl, x⟩; replace hS := Lib.hid (hS.out.call x); clear x)
                    | (go_at_call 17; refine (clone_ _ s.par a c (hS.out.get (intsF (.slice a s.par.length c) s.par) (by simp)) hl2).mono ?_; rintro e w9 ⟨⟨a', c', rfl, ho⟩, x⟩; replace hS := Lib.hid ((hS.out.call x).own ho.own (by simp)); clear x ho)
                    | (go_at_call_of 28 (Value.int .u8 48); refine (within_ _ _ 48 57 false b3.out).mono ?_; rintro e w' ⟨rfl, rfl⟩)
                    | (go_at_call_of 28 (Value.int .u8 32); refine (within_ _ _ 32 63 false b6.out).mono ?_; rintro e w' ⟨rfl, rfl⟩)
                    | (go_at_call_of 28 (Value.int .u8 64); refine (within_ _ _ 64 126 false b7.out).mono ?_; rintro e w' ⟨rfl, rfl⟩))
                refine region_St1 hS.out 2 (fun _ => true) (by kernel_rfl) (by rfl) ?_
                intro w9 hR hS9; replace hS := Lib.hid hS9; clear hS9
                refine wpJ_take 0 (oi := { dst := some 75, op := Op.load 33 (Operand.tmp 2), type := 33, pos := "esca.go:134", after := #[], guard := none }) rfl (by kernel_rfl) (by kernel_rfl) (fun _ _ _ h => h) hR (y_loadAll (T := 33) (by rfl) rfl (by rfl) Try.underlying33 rfl Try.size33 (by repeat (first | exact At.here | apply At.there)) (by rfl)) (fun _ => ?_)
                try simp only [Act.put, Act.eval, Array.getD_eq_getD_getElem?, List.getElem?_toArray, List.getElem?_cons_succ, List.getElem?_cons_zero, Option.getD_some, List.setIfInBounds_toArray, List.set_cons_zero, List.set_cons_succ]
                refine wpJ_take 1 (oi := { dst := some 76, op := Op.move (Operand.tmp 1), type := 5, pos := "esca.go:134", after := #[], guard := none }) rfl (by kernel_rfl) (by kernel_rfl) (fun _ _ _ h => h) hR (y_move (by rfl) rfl (by rfl)) (fun _ => ?_)
                try simp only [Act.put, Act.eval, Array.getD_eq_getD_getElem?, List.getElem?_toArray, List.getElem?_cons_succ, List.getElem?_cons_zero, Option.getD_some, List.setIfInBounds_toArray, List.set_cons_zero, List.set_cons_succ]
                refine wpJ_one 2 (oi := { dst := some 77, op := Op.call { callee := Callee.value (Operand.func 29), args := #[Operand.tmp 76], argTypes := #[5] }, type := 27, pos := "esca.go:134", after := #[{ on := 1, ground := Ground.data }], guard := none }) rfl (by kernel_rfl) ?_
                intro K hK
                refine sw (by rfl) ?_
                refine st_fn Try.func29 (by kernel_rfl) (by kernel_rfl) rfl (by rfl) _ (control_ _ b hb hb2) ?_
                rintro e w9 ⟨⟨b2, d2, L, rfl, hL, hacs⟩, x⟩
                refine ⟨_, rfl, ?_⟩
                replace hS := Lib.hid ((hS.out.call x).acts hL (by simp)); clear x hL; replace hacs := Lib.hid hacs
                refine hK _ _ (fun _ => (by repeat (first | exact rows_nil _ | refine rows_here hS.out (by repeat (first | exact At.here | apply At.there)) ?_))) ?_
                clear hK K
                replace hR := rows_of hR w9 (by repeat (first | exact rows_nil _ | refine rows_here hS.out (by repeat (first | exact At.here | apply At.there)) ?_))
                try simp only [Act.put, Act.eval, Array.getD_eq_getD_getElem?, List.getElem?_toArray, List.getElem?_cons_succ, List.getElem?_cons_zero, Option.getD_some, List.setIfInBounds_toArray, List.set_cons_zero, List.set_cons_succ]
                refine wpJ_one 3 (oi := { dst := none, op := Op.store 33 (Operand.tmp 4) (Operand.tmp 75), type := 0, pos := "esca.go:134", after := #[{ on := 0, ground := Ground.data }, { on := 2, ground := Ground.chain }, { on := 0, ground := Ground.phase }, { on := 1, ground := Ground.textOnly Departure.lateStores }, { on := 2, ground := Ground.textOnly Departure.lateStoresUnsure }], guard := none }) rfl (by kernel_rfl) ?_
                intro K hK
                refine sw (by rfl) ?_
                refine st_storeAll (T := 33) hS.out rfl (by rfl) (by rfl) (by exact Try.size33) (by repeat (first | exact At.here | apply At.there)) (by rfl) (by rfl) ?_; intro w9 hS9; replace hS := Lib.hid hS9; clear hS9
                refine hK _ _ (fun _ => (by repeat (first | exact rows_nil _ | refine rows_here hS.out (by repeat (first | exact At.here | apply At.there)) ?_))) ?_
                clear hK K
                replace hR := rows_of hR w9 (by repeat (first | exact rows_nil _ | refine rows_here hS.out (by repeat (first | exact At.here | apply At.there)) ?_))
                try simp only [Act.put, Act.eval, Array.getD_eq_getD_getElem?, List.getElem?_toArray, List.getElem?_cons_succ, List.getElem?_cons_zero, Option.getD_some, List.setIfInBounds_toArray, List.set_cons_zero, List.set_cons_succ]
                refine wpJ_take 4 (oi := { dst := some 5, op := Op.assign (Operand.tmp 77), type := 27, pos := "esca.go:134", after := #[{ on := 2, ground := Ground.data }, { on := 3, ground := Ground.chain }, { on := 0, ground := Ground.phase }, { on := 1, ground := Ground.phase }, { on := 2, ground := Ground.phase }, { on := 3, ground := Ground.phase }], guard := none }) rfl (by kernel_rfl) (by kernel_rfl) (fun _ _ _ h => h) hR (y_assign (by rfl) rfl (by rfl)) (fun _ => ?_)
                try simp only [Act.put, Act.eval, Array.getD_eq_getD_getElem?, List.getElem?_toArray, List.getElem?_cons_succ, List.getElem?_cons_zero, Option.getD_some, List.setIfInBounds_toArray, List.set_cons_zero, List.set_cons_succ]
                refine wpJ_done _ (by kernel_rfl) ?_
                go_wp2_with fail
                refine bodyPost_ret (res_cell_tmp hS.out Try.results21 Try.underlying33 rfl Try.size33 (by rfl) (by repeat (first | exact At.here | apply At.there)) (by rfl) (by rfl)) rfl ?_
                exact ⟨⟨a', c', b2, d2, L, rfl, (hS.out.get (intsF (.slice a' s.par.length c') s.par) (by simp)), hS.out.get (actsF (.slice b2 L.length d2) L) (by simp), hacs.out⟩, hS.out.isNew⟩
              · have e : mcsi s b = (s, []) := by unfold mcsi; rw [if_neg (by rw [h]; simp), if_neg b3, if_neg b4, if_neg b5, if_neg b6, if_neg b7, if_neg b9]
                rw [e]; clear e
                replace b3 := Lib.hid (Bool.eq_false_iff.2 b3)
                have g59 : (b == 59) = false := beq_eq_false_iff_ne.2 b4
                clear b4 b5 b8
                replace b6 := Lib.hid (Bool.eq_false_iff.2 b6)
                replace b7 := Lib.hid (Bool.eq_false_iff.2 b7)
                have d9 : decide (b < 32) = false := decide_eq_false b9
                replace h := Lib.hid h
                go_enter Try.func21, Try.ntmps21
                go_wp2_with (first
                    | (refine wl_made hS.out ?_; intro w9 hS9; replace hS := Lib.hid hS9; clear hS9)
                    | (refine wl_load1 (T := 3) hS.out (by rfl) rfl (by rfl) Try.underlying3 rfl (by repeat (first | exact At.here | apply At.there)) (by rfl) ?_)
                    | (refine wl_load1 (T := 4) hS.out (by rfl) rfl (by rfl) Try.underlying4 rfl (by repeat (first | exact At.here | apply At.there)) (by rfl) ?_)
                    | (refine wl_load1 (T := 22) hS.out (by rfl) rfl (by rfl) Try.underlying22 rfl (by repeat (first | exact At.here | apply At.there)) (by rfl) ?_)
                    | (refine wl_loadAll (T := 33) hS.out (by rfl) rfl (by rfl) Try.underlying33 rfl Try.size33 (by repeat (first | exact At.here | apply At.there)) (by rfl) ?_)
                    | (refine wl_storeAll (T := 24) hS.out (by rfl) rfl (by rfl) (by rfl) (by exact Try.size24) (by repeat (first | exact At.here | apply At.there)) (by rfl) (by rfl) ?_; intro w9 hS9; replace hS := Lib.hid hS9; clear hS9)
                    | (refine wl_storeAll (T := 33) hS.out (by rfl) rfl (by rfl) (by rfl) (by exact Try.size33) (by repeat (first | exact At.here | apply At.there)) (by rfl) (by rfl) ?_; intro w9 hS9; replace hS := Lib.hid hS9; clear hS9)
                    | (refine wl_store1 (v := .slice _ _ _) (T := 22) hS.out (by rfl) rfl (by rfl) (by rfl) Try.size22 (by repeat (first | exact At.here | apply At.there)) (by rfl) (by rfl) (by rfl) ?_; intro w9 hS9; simp only [List.set_cons_zero, List.set_cons_succ] at hS9; replace hS := Lib.hid hS9; clear hS9)
                    | (refine wl_store1 (v := .int _ _) (T := 3) hS.out (by rfl) rfl (by rfl) (by rfl) Try.size3 (by repeat (first | exact At.here | apply At.there)) (by rfl) (by rfl) (by rfl) ?_; intro w9 hS9; simp only [List.set_cons_zero, List.set_cons_succ] at hS9; replace hS := Lib.hid hS9; clear hS9)
                    | (refine wl_store1 (v := .bool _) (T := 4) hS.out (by rfl) rfl (by rfl) (by rfl) Try.size4 (by repeat (first | exact At.here | apply At.there)) (by rfl) (by rfl) (by rfl) ?_; intro w9 hS9; simp only [List.set_cons_zero, List.set_cons_succ] at hS9; replace hS := Lib.hid hS9; clear hS9)
                    | (go_at_call 26; refine (leave_no _ s _ a _ c h.out).mono ?_; rintro e w9 ⟨rfl, x⟩; replace hS := Lib.hid (hS.out.call x); clear x)
                    | (go_at_call 17; refine (clone_ _ s.par a c (hS.out.get (intsF (.slice a s.par.length c) s.par) (by simp)) hl2).mono ?_; rintro e w9 ⟨⟨a', c', rfl, ho⟩, x⟩; replace hS := Lib.hid ((hS.out.call x).own ho.own (by simp)); clear x ho)
                    | (go_at_call_of 28 (Value.int .u8 48); refine (within_ _ _ 48 57 false b3.out).mono ?_; rintro e w' ⟨rfl, rfl⟩)
                    | (go_at_call_of 28 (Value.int .u8 32); refine (within_ _ _ 32 63 false b6.out).mono ?_; rintro e w' ⟨rfl, rfl⟩)
                    | (go_at_call_of 28 (Value.int .u8 64); refine (within_ _ _ 64 126 false b7.out).mono ?_; rintro e w' ⟨rfl, rfl⟩))
                refine bodyPost_ret (res_cell_tmp hS.out Try.results21 Try.underlying33 rfl Try.size33 (by rfl) (by repeat (first | exact At.here | apply At.there)) (by rfl) (by rfl)) rfl ?_
                exact ⟨⟨a', c', none, 0, [], rfl, (hS.out.get (intsF (.slice a' s.par.length c') s.par) (by simp)), Acts.nil _, rfl⟩, hS.out.isNew⟩
end Go.Proofs.Ytbcpbndhkainnaa
