/- EscaCancel, walked. -/
import Derived.Test.YtbcpbndhkainnaaEsPlain
import Derived.Outline
namespace Go.Proofs.Ytbcpbndhkainnaa
open Go.RowKit
set_option linter.unusedSimpArgs false
set_option linter.unusedVariables false
theorem rd_bytes {w : World} {v : Option Addr} {c : Nat} {zs : List Int} (h : w.ownsRow 0 5 1 (.slice v zs.length c) zs.length (bytesV zs)) : Rd .u8 w v zs := fun i hi => by
  obtain ⟨g, rfl⟩ := own_addr h (by omega)
  obtain ⟨cs, hc⟩ := own_row h g rfl
  exact ⟨g, 0, rfl, hc.lt, by rw [Nat.zero_add]; exact own_cell h i _ (by simp [bytesV, hi])⟩
theorem rd_row {w : World} {b : Nat} {zs : List Int} (h : Row w b 5 (bytesV zs).toArray) : Rd .u8 w (some ⟨b, 0, none⟩) zs := fun i hi => ⟨b, 0, rfl, h.lt, by rw [Nat.zero_add, h.cell]; simp [bytesV, hi]⟩
theorem feed_r (w : World) (s : Es) (zs : List Int) (r : Es × List Ac) (a ba : Option Addr) (c bc : Nat) (hp : Ints w (.slice a s.par.length c) s.par) (hrd : Rd .u8 w ba zs) (hz : ∀ z ∈ zs, 0 ≤ z ∧ z ≤ 255) (hlen : zs.length ≤ 100000) (hw : Wf s) (hr : mfeed zs s [] = r) :
    Calls Try.prog 11 #[esV s (.slice a s.par.length c), .slice ba zs.length bc] w fun e w' => REA w' e r ∧ New w w' := by
  subst hr; exact feed_ w s zs a ba c bc hp hrd hz hlen hw
theorem acs_nil {L : List (Ac × Value)} (h : acs L = []) : L = [] := by simpa [acs] using h
theorem acs_one {L : List (Ac × Value)} {y : Ac} (h : acs L = [y]) : ∃ p, L = [p] := by
  match L, h with
  | [p], _ => exact ⟨p, rfl⟩
  | [], h => simp [acs] at h
  | _ :: _ :: _, h => simp [acs] at h
set_option maxHeartbeats 2000000 in
set_option maxRecDepth 100000 in
theorem cancel_a (w : World) (xs ms : List Int) (la ma : Option Addr) (lc mc : Nat) (sub : Bool) (hl : Rd .i64 w la xs) (hl2 : xs.length ≤ maxLen) (s1 t : Es) (x1 : List Ac) (h1 : mfeed (mbytes xs) ez [] = (s1, x1)) (hw1 : Wf s1) (hm5 : s1.m = 5) (ht3 : t.m = 3)
    (h24 : mfeed [if sub = true then 26 else 24] s1 [] = (t, [])) :
    Calls Try.prog 6 #[.slice la xs.length lc, .bool sub, .slice ma ms.length mc] w fun e w' => e = .returned (.bool true) ∧ New w w' := by
  have hS : St (fun _ => False) w w [] [] := St.init w
  replace hS := Lib.hid hS
  replace hl := Lib.hid hl
  replace hl2 := Lib.hid hl2
  have g5 : (s1.m == 5) = true := beq_iff_eq.2 hm5
  have g3 : (t.m == 3) = true := beq_iff_eq.2 ht3
  clear hm5 ht3
  have hw1' := Lib.hid ez_wf
  have hw2 := Lib.hid hw1
  have hr1 := Lib.hid h1
  have hr2 := Lib.hid h24
  have hz1 := Lib.hid (And.intro (mbytes_bd xs) (show (mbytes xs).length ≤ 100000 from Nat.le_trans (mbytes_len xs) (by decide)))
  clear hw1 h1 h24
  have hw1 := hw1'
  clear hw1'
  have tb1 : True := trivial
  have tf1 : True := trivial
  have tf2 : True := trivial
  cases sub
  all_goals
    simp only [if_true, if_false, Bool.false_eq_true] at hr2
    go_enter Try.func6, Try.ntmps6
    go_wp2_with (first
    | (refine wl_made (bs := []) (t := 33) hS.out ?_; intro wB hS9; replace hS := Lib.hid hS9; clear hS9)
    | (refine wl_made (t := 33) hS.out ?_; intro w9 hS9; replace hS := Lib.hid hS9; clear hS9)
    | (refine wl_made (bs := []) (t := 5) hS.out ?_; intro wB hS9; replace hS := Lib.hid hS9; clear hS9)
    | (refine wl_made (t := 5) hS.out ?_; intro w9 hS9; replace hS := Lib.hid hS9; clear hS9)
    | (refine wl_load1 (T := 3) hS.out (by rfl) rfl (by rfl) Try.underlying3 rfl (by repeat (first | exact At.here | apply At.there)) (by rfl) ?_)
    | (refine wl_loadAll (T := 33) hS.out (by rfl) rfl (by rfl) Try.underlying33 rfl Try.size33 (by repeat (first | exact At.here | apply At.there)) (by rfl) ?_)
    | (refine wl_storeAll (T := 33) hS.out (by rfl) rfl (by rfl) (by rfl) (by exact Try.size33) (by repeat (first | exact At.here | apply At.there)) (by rfl) (by rfl) ?_; intro w9 hS9; replace hS := Lib.hid hS9; clear hS9)
    | (go_at_call 16; have _t := tb1; refine (bytes_ _ xs la lc (hl.out.new hS.out.isNew) hl2.out).mono ?_; clear _t tb1; rintro e w9 ⟨⟨ta1, tc1, rfl, ho, -⟩, x⟩; replace hS := Lib.hid ((hS.out.call x).own ho (by simp)); clear x ho)
    | (go_at_call 11; have _t := tf1; refine (feed_r _ ez (mbytes xs) (s1, x1) none _ 0 _ (Ints.nil _) (rd_bytes (hS.out.get (bytesF (.slice ta1 (mbytes xs).length tc1) (mbytes xs)) (by simp))) hz1.out.1 hz1.out.2 hw1.out hr1.out).mono ?_; clear _t tf1; rintro e w9 ⟨⟨a1, c1, b1, d1, L1, rfl, hI, hL, hq1⟩, x⟩; replace hS := Lib.hid (((hS.out.call x).own hI (by simp)).acts hL (by simp)); clear x hI hL; replace hq1 := Lib.hid hq1)
    | (go_at_call 11; have _t := tf2; refine (feed_r _ s1 [24] (t, []) a1 _ c1 _ (hS.out.get (intsF (.slice a1 s1.par.length c1) s1.par) (by simp)) (rd_row (hS.out.row (t := 5) (cs := bytesV [24]) (cs' := []) (bs' := _) (by repeat (first | exact At.here | apply At.there)))) (by decide) (by decide) hw2.out hr2.out).mono ?_; clear _t tf2; rintro e w9 ⟨⟨a2, c2, b2, d2, L2, rfl, hI, hL, hq2⟩, x⟩; replace hS := Lib.hid ((((hS.out.call x).forget (List.sublist_cons_self _ _)).own hI (by simp)).acts hL (by simp)); clear x hI hL; obtain rfl := acs_nil hq2; replace hq2 := Lib.hid hq2)
    | (go_at_call 11; have _t := tf2; refine (feed_r _ s1 [26] (t, []) a1 _ c1 _ (hS.out.get (intsF (.slice a1 s1.par.length c1) s1.par) (by simp)) (rd_row (hS.out.row (t := 5) (cs := bytesV [26]) (cs' := []) (bs' := _) (by repeat (first | exact At.here | apply At.there)))) (by decide) (by decide) hw2.out hr2.out).mono ?_; clear _t tf2; rintro e w9 ⟨⟨a2, c2, b2, d2, L2, rfl, hI, hL, hq2⟩, x⟩; replace hS := Lib.hid ((((hS.out.call x).forget (List.sublist_cons_self _ _)).own hI (by simp)).acts hL (by simp)); clear x hI hL; obtain rfl := acs_nil hq2; replace hq2 := Lib.hid hq2)
    | (go_at_call 13; refine (awake_ _).mono ?_; rintro e w9 ⟨rfl, x⟩; replace hS := Lib.hid (hS.out.call x); clear x))
    go_ret
    exact ⟨rfl, hS.out.isNew⟩
set_option maxHeartbeats 8000000 in
set_option maxRecDepth 100000 in
theorem cancel_b (w : World) (xs ms : List Int) (la ma : Option Addr) (lc mc : Nat) (sub : Bool) (hl : Rd .i64 w la xs) (hl2 : xs.length ≤ maxLen) (hm : Rd .i64 w ma ms) (hl3 : ms.length ≤ maxLen) (s1 u : Es) (x1 y3 : List Ac) (h1 : mfeed (mbytes xs) ez [] = (s1, x1)) (hw1 : Wf s1) (hm5 : s1.m ≠ 5) (hnd : s1.nd = 0)
    (h24 : mfeed [if sub = true then 26 else 24] s1 [] = (ez, [])) (h3 : mfeed (mbytes ms) ez [] = (u, y3)) :
    Calls Try.prog 6 #[.slice la xs.length lc, .bool sub, .slice ma ms.length mc] w fun e w' => e = .returned (.bool true) ∧ New w w' := by
  have hS : St (fun _ => False) w w [] [] := St.init w
  replace hS := Lib.hid hS
  replace hl := Lib.hid hl
  replace hl2 := Lib.hid hl2
  replace hm := Lib.hid hm
  replace hl3 := Lib.hid hl3
  have g5 : (s1.m == 5) = false := beq_eq_false_iff_ne.2 hm5
  have gn : (s1.nd == 0) = true := beq_iff_eq.2 hnd
  clear hm5 hnd
  have hz1 := Lib.hid (And.intro (mbytes_bd xs) (show (mbytes xs).length ≤ 100000 from Nat.le_trans (mbytes_len xs) (by decide)))
  have hz3 := Lib.hid (And.intro (mbytes_bd ms) (show (mbytes ms).length ≤ 100000 from Nat.le_trans (mbytes_len ms) (by decide)))
  have hfd := wf_feed (mbytes ms) (mbytes_bd ms) ez [] ez_wf
  have hsm := small_feed (mbytes ms) (mbytes_bd ms) ez [] ez_wf small_nil
  rw [h3] at hfd hsm
  have hlu : u.par.length ≤ 1000 := by have := hfd.1.2.1; simp only at this; omega
  have hy : y3.length ≤ 1000000 := by have := hfd.2; have := mbytes_len ms; simp at *; omega
  have hs := Lib.hid (show ∀ y ∈ y3, y.par.length ≤ 1000 from hsm)
  clear hfd hsm
  have hw2 := Lib.hid hw1
  have hr1 := Lib.hid h1
  have hr2 := Lib.hid h24
  have hr3 := Lib.hid h3
  clear hw1 h1 h24 h3
  have hw1 := Lib.hid ez_wf
  have tb1 : True := trivial
  have tb4 : True := trivial
  have tf1 : True := trivial
  have tf2 : True := trivial
  have tf4 : True := trivial
  have te1 : True := trivial
  have te2 : True := trivial
  cases sub
  all_goals
    simp only [if_true, if_false, Bool.false_eq_true] at hr2
    go_enter Try.func6, Try.ntmps6
    go_wp2_with (first
    | (refine wl_made (bs := []) (t := 33) hS.out ?_; intro wB hS9; replace hS := Lib.hid hS9; clear hS9)
    | (refine wl_made (t := 33) hS.out ?_; intro w9 hS9; replace hS := Lib.hid hS9; clear hS9)
    | (refine wl_made (bs := []) (t := 5) hS.out ?_; intro wB hS9; replace hS := Lib.hid hS9; clear hS9)
    | (refine wl_made (t := 5) hS.out ?_; intro w9 hS9; replace hS := Lib.hid hS9; clear hS9)
    | (refine wl_load1 (T := 3) hS.out (by rfl) rfl (by rfl) Try.underlying3 rfl (by repeat (first | exact At.here | apply At.there)) (by rfl) ?_)
    | (refine wl_loadAll (T := 33) hS.out (by rfl) rfl (by rfl) Try.underlying33 rfl Try.size33 (by repeat (first | exact At.here | apply At.there)) (by rfl) ?_)
    | (refine wl_storeAll (T := 33) hS.out (by rfl) rfl (by rfl) (by rfl) (by exact Try.size33) (by repeat (first | exact At.here | apply At.there)) (by rfl) (by rfl) ?_; intro w9 hS9; replace hS := Lib.hid hS9; clear hS9)
    | (go_at_call 16; have _t := tb1; refine (bytes_ _ xs la lc (hl.out.new hS.out.isNew) hl2.out).mono ?_; clear _t tb1; rintro e w9 ⟨⟨ta1, tc1, rfl, ho, -⟩, x⟩; replace hS := Lib.hid ((hS.out.call x).own ho (by simp)); clear x ho)
    | (go_at_call 11; have _t := tf1; refine (feed_r _ ez (mbytes xs) (s1, x1) none _ 0 _ (Ints.nil _) (rd_bytes (hS.out.get (bytesF (.slice ta1 (mbytes xs).length tc1) (mbytes xs)) (by simp))) hz1.out.1 hz1.out.2 hw1.out hr1.out).mono ?_; clear _t tf1; rintro e w9 ⟨⟨a1, c1, b1, d1, L1, rfl, hI, hL, hq1⟩, x⟩; replace hS := Lib.hid (((hS.out.call x).own hI (by simp)).acts hL (by simp)); clear x hI hL; replace hq1 := Lib.hid hq1)
    | (go_at_call 11; have _t := tf2; refine (feed_r _ s1 [24] (ez, []) a1 _ c1 _ (hS.out.get (intsF (.slice a1 s1.par.length c1) s1.par) (by simp)) (rd_row (hS.out.row (t := 5) (cs := bytesV [24]) (cs' := []) (bs' := _) (by repeat (first | exact At.here | apply At.there)))) (by decide) (by decide) hw2.out hr2.out).mono ?_; clear _t tf2; rintro e w9 ⟨⟨a2, c2, b2, d2, L2, rfl, hI, hL, hq2⟩, x⟩; replace hS := Lib.hid ((((hS.out.call x).forget (List.sublist_cons_self _ _)).own hI (by simp)).acts hL (by simp)); clear x hI hL; obtain rfl := acs_nil hq2; replace hq2 := Lib.hid hq2)
    | (go_at_call 11; have _t := tf2; refine (feed_r _ s1 [26] (ez, []) a1 _ c1 _ (hS.out.get (intsF (.slice a1 s1.par.length c1) s1.par) (by simp)) (rd_row (hS.out.row (t := 5) (cs := bytesV [26]) (cs' := []) (bs' := _) (by repeat (first | exact At.here | apply At.there)))) (by decide) (by decide) hw2.out hr2.out).mono ?_; clear _t tf2; rintro e w9 ⟨⟨a2, c2, b2, d2, L2, rfl, hI, hL, hq2⟩, x⟩; replace hS := Lib.hid ((((hS.out.call x).forget (List.sublist_cons_self _ _)).own hI (by simp)).acts hL (by simp)); clear x hI hL; obtain rfl := acs_nil hq2; replace hq2 := Lib.hid hq2)
    | (go_at_call 15; have _t := te1; refine (sameEz _ a2 none c2 0 (hS.out.get (own1 3 1 (.slice a2 0 c2) 0 (ints [])) (by simp)) (Ints.nil _)).mono ?_; clear _t te1; rintro e w9 ⟨rfl, x⟩; replace hS := Lib.hid (hS.out.call x); clear x))
    refine region_St1 hS.out 0 (fun _ => true) (by kernel_rfl) (by rfl) ?_
    intro w9 hR hS9; replace hS := Lib.hid hS9; clear hS9
    refine wpJ_take 0 (oi := { dst := some 66, op := Op.load 33 (Operand.tmp 10), type := 33, pos := "extra.go:98", after := #[], guard := none }) rfl (by kernel_rfl) (by kernel_rfl) (fun _ _ _ h => h) hR (y_loadAll (T := 33) (by rfl) rfl (by rfl) Try.underlying33 rfl Try.size33 (by repeat (first | exact At.here | apply At.there)) (by rfl)) (fun _ => ?_)
    try simp only [Act.put, Act.eval, Array.getD_eq_getD_getElem?, List.getElem?_toArray, List.getElem?_cons_succ, List.getElem?_cons_zero, Option.getD_some, List.setIfInBounds_toArray, List.set_cons_zero, List.set_cons_succ]
    refine wpJ_take 1 (oi := { dst := some 67, op := Op.move (Operand.tmp 2), type := 22, pos := "extra.go:98", after := #[], guard := none }) rfl (by kernel_rfl) (by kernel_rfl) (fun _ _ _ h => h) hR (y_move (by rfl) rfl (by rfl)) (fun _ => ?_)
    try simp only [Act.put, Act.eval, Array.getD_eq_getD_getElem?, List.getElem?_toArray, List.getElem?_cons_succ, List.getElem?_cons_zero, Option.getD_some, List.setIfInBounds_toArray, List.set_cons_zero, List.set_cons_succ]
    refine wpJ_two 2 7 (oi := { dst := some 68, op := Op.call { callee := Callee.value (Operand.func 16), args := #[Operand.tmp 67], argTypes := #[22] }, type := 36, pos := "extra.go:98", after := #[{ on := 1, ground := Ground.data }], guard := none }) (ok := { dst := some 12, op := Op.alloc 33, type := 0, pos := "extra.go:98", after := #[], guard := none }) rfl rfl (by kernel_rfl) ?_ ?_
    · intro K hK
      refine sw (by rfl) ?_
      refine st_fn Try.func16 (by kernel_rfl) (by kernel_rfl) rfl (by rfl) _ (bytes_ _ ms ma mc (hm.out.new hS.out.isNew) hl3.out) ?_
      rintro e w9 ⟨⟨ta3, tc3, rfl, ho, -⟩, x⟩
      refine ⟨_, rfl, ?_⟩
      replace hS := Lib.hid ((hS.out.call x).own ho (by simp)); clear x ho
      refine hK _ _ (fun _ => (by repeat (first | exact rows_nil _ | refine rows_here hS.out (by repeat (first | exact At.here | apply At.there)) ?_))) ?_
      clear hK K
      replace hR := rows_of hR w9 (by repeat (first | exact rows_nil _ | refine rows_here hS.out (by repeat (first | exact At.here | apply At.there)) ?_))
      try simp only [Act.put, Act.eval, Array.getD_eq_getD_getElem?, List.getElem?_toArray, List.getElem?_cons_succ, List.getElem?_cons_zero, Option.getD_some, List.setIfInBounds_toArray, List.set_cons_zero, List.set_cons_succ]
      refine wpJ_two 3 7 (oi := { dst := some 69, op := Op.call { callee := Callee.value (Operand.func 11), args := #[Operand.tmp 66, Operand.tmp 68], argTypes := #[33, 36] }, type := 34, pos := "extra.go:98", after := #[{ on := 0, ground := Ground.data }, { on := 2, ground := Ground.data }, { on := 2, ground := Ground.chain }], guard := none }) (ok := { dst := some 12, op := Op.alloc 33, type := 0, pos := "extra.go:98", after := #[], guard := none }) rfl rfl (by kernel_rfl) ?_ ?_
      · intro K hK
        refine sw (by rfl) ?_
        refine st_fn Try.func11 (by kernel_rfl) (by kernel_rfl) rfl (by rfl) _ (feed_r _ ez (mbytes ms) (u, y3) a2 _ c2 _ (hS.out.get (own1 3 1 (.slice a2 0 c2) 0 (ints [])) (by simp)) (rd_bytes (hS.out.get (bytesF (.slice ta3 (mbytes ms).length tc3) (mbytes ms)) (by simp))) hz3.out.1 hz3.out.2 ez_wf hr3.out) ?_
        rintro e w9 ⟨⟨a3, c3, b3, d3, L3, rfl, hI, hL, hq3⟩, x⟩
        refine ⟨_, rfl, ?_⟩
        replace hS := Lib.hid (((hS.out.call x).own hI (by simp)).acts hL (by simp)); clear x hI hL; replace hq3 := Lib.hid hq3
        refine hK _ _ (fun _ => (by repeat (first | exact rows_nil _ | refine rows_here hS.out (by repeat (first | exact At.here | apply At.there)) ?_))) ?_
        clear hK K
        replace hR := rows_of hR w9 (by repeat (first | exact rows_nil _ | refine rows_here hS.out (by repeat (first | exact At.here | apply At.there)) ?_))
        try simp only [Act.put, Act.eval, Array.getD_eq_getD_getElem?, List.getElem?_toArray, List.getElem?_cons_succ, List.getElem?_cons_zero, Option.getD_some, List.setIfInBounds_toArray, List.set_cons_zero, List.set_cons_succ]
        refine wpJ_take 4 (oi := { dst := some 65, op := Op.move (Operand.tmp 69), type := 34, pos := "extra.go:98", after := #[{ on := 3, ground := Ground.data }], guard := none }) rfl (by kernel_rfl) (by kernel_rfl) (fun _ _ _ h => h) hR (y_move (by rfl) rfl (by rfl)) (fun _ => ?_)
        try simp only [Act.put, Act.eval, Array.getD_eq_getD_getElem?, List.getElem?_toArray, List.getElem?_cons_succ, List.getElem?_cons_zero, Option.getD_some, List.setIfInBounds_toArray, List.set_cons_zero, List.set_cons_succ]
        refine wpJ_take 5 (oi := { dst := some 70, op := Op.extract (Operand.tmp 65) 0, type := 33, pos := "extra.go:98", after := #[{ on := 4, ground := Ground.data }], guard := none }) rfl (by kernel_rfl) (by kernel_rfl) (fun _ _ _ h => h) hR (Or.inl ⟨by rfl, (by intro W hW; clear hW; go_simp; (first | done | with_reducible rfl))⟩) (fun _ => ?_)
        try simp only [Act.put, Act.eval, Array.getD_eq_getD_getElem?, List.getElem?_toArray, List.getElem?_cons_succ, List.getElem?_cons_zero, Option.getD_some, List.setIfInBounds_toArray, List.set_cons_zero, List.set_cons_succ]
        refine wpJ_take 6 (oi := { dst := some 71, op := Op.extract (Operand.tmp 65) 1, type := 27, pos := "extra.go:98", after := #[{ on := 4, ground := Ground.data }, { on := 8, ground := Ground.gcOnly Departure.lateStores }], guard := none }) rfl (by kernel_rfl) (by kernel_rfl) (fun _ _ _ h => h) hR (Or.inl ⟨by rfl, (by intro W hW; clear hW; go_simp; (first | done | with_reducible rfl))⟩) (fun _ => ?_)
        try simp only [Act.put, Act.eval, Array.getD_eq_getD_getElem?, List.getElem?_toArray, List.getElem?_cons_succ, List.getElem?_cons_zero, Option.getD_some, List.setIfInBounds_toArray, List.set_cons_zero, List.set_cons_succ]
        refine wpJ_one 7 (oi := { dst := some 12, op := Op.alloc 33, type := 0, pos := "extra.go:98", after := #[], guard := none }) rfl (by kernel_rfl) ?_
        intro K hK
        refine sw (by rfl) ?_
        refine st_made hS.out (by go_simp; (first | done | exact ⟨rfl, rfl⟩)) ?_
        intro w9 hS9; replace hS := Lib.hid hS9; clear hS9
        refine hK _ _ (fun _ => (by repeat (first | exact rows_nil _ | refine rows_here hS.out (by repeat (first | exact At.here | apply At.there)) ?_))) ?_
        clear hK K
        replace hR := rows_of hR w9 (by repeat (first | exact rows_nil _ | refine rows_here hS.out (by repeat (first | exact At.here | apply At.there)) ?_))
        try simp only [Act.put, Act.eval, Array.getD_eq_getD_getElem?, List.getElem?_toArray, List.getElem?_cons_succ, List.getElem?_cons_zero, Option.getD_some, List.setIfInBounds_toArray, List.set_cons_zero, List.set_cons_succ]
        refine wpJ_one 8 (oi := { dst := none, op := Op.store 33 (Operand.tmp 12) (Operand.tmp 70), type := 0, pos := "extra.go:98", after := #[{ on := 7, ground := Ground.data }, { on := 5, ground := Ground.data }, { on := 3, ground := Ground.chain }, { on := 0, ground := Ground.phase }, { on := 1, ground := Ground.phase }, { on := 2, ground := Ground.phase }, { on := 3, ground := Ground.phase }, { on := 4, ground := Ground.phase }, { on := 5, ground := Ground.phase }, { on := 6, ground := Ground.textOnly Departure.lateStores }, { on := 7, ground := Ground.phase }], guard := none }) rfl (by kernel_rfl) ?_
        intro K hK
        refine sw (by rfl) ?_
        refine st_storeAll (T := 33) hS.out rfl (by rfl) (by rfl) (by exact Try.size33) (by repeat (first | exact At.here | apply At.there)) (by rfl) (by rfl) ?_; intro w9 hS9; replace hS := Lib.hid hS9; clear hS9
        refine hK _ _ (fun _ => (by repeat (first | exact rows_nil _ | refine rows_here hS.out (by repeat (first | exact At.here | apply At.there)) ?_))) ?_
        clear hK K
        replace hR := rows_of hR w9 (by repeat (first | exact rows_nil _ | refine rows_here hS.out (by repeat (first | exact At.here | apply At.there)) ?_))
        try simp only [Act.put, Act.eval, Array.getD_eq_getD_getElem?, List.getElem?_toArray, List.getElem?_cons_succ, List.getElem?_cons_zero, Option.getD_some, List.setIfInBounds_toArray, List.set_cons_zero, List.set_cons_succ]
        refine wpJ_take 9 (oi := { dst := some 13, op := Op.assign (Operand.tmp 71), type := 27, pos := "extra.go:98", after := #[{ on := 6, ground := Ground.data }, { on := 8, ground := Ground.chain }, { on := 0, ground := Ground.phase }, { on := 1, ground := Ground.phase }, { on := 2, ground := Ground.phase }, { on := 3, ground := Ground.phase }, { on := 4, ground := Ground.phase }, { on := 5, ground := Ground.phase }, { on := 6, ground := Ground.phase }, { on := 7, ground := Ground.phase }, { on := 8, ground := Ground.phase }], guard := none }) rfl (by kernel_rfl) (by kernel_rfl) (fun _ _ _ h => h) hR (y_assign (by rfl) rfl (by rfl)) (fun _ => ?_)
        try simp only [Act.put, Act.eval, Array.getD_eq_getD_getElem?, List.getElem?_toArray, List.getElem?_cons_succ, List.getElem?_cons_zero, Option.getD_some, List.setIfInBounds_toArray, List.set_cons_zero, List.set_cons_succ]
        refine wpJ_done _ (by kernel_rfl) ?_
        go_wp2_with (first
            | (refine wl_made (bs := []) (t := 33) hS.out ?_; intro wB hS9; replace hS := Lib.hid hS9; clear hS9)
            | (refine wl_made (t := 33) hS.out ?_; intro w9 hS9; replace hS := Lib.hid hS9; clear hS9)
            | (refine wl_loadAll (T := 33) hS.out (by rfl) rfl (by rfl) Try.underlying33 rfl Try.size33 (by repeat (first | exact At.here | apply At.there)) (by rfl) ?_)
            | (refine wl_storeAll (T := 33) hS.out (by rfl) rfl (by rfl) (by rfl) (by exact Try.size33) (by repeat (first | exact At.here | apply At.there)) (by rfl) (by rfl) ?_; intro w9 hS9; replace hS := Lib.hid hS9; clear hS9)
            | (go_at_call 16; have _t := tb4; refine (bytes_ _ ms ma mc (hm.out.new hS.out.isNew) hl3.out).mono ?_; clear _t tb4; rintro e w9 ⟨⟨ta4, tc4, rfl, ho, -⟩, x⟩; replace hS := Lib.hid ((hS.out.call x).own ho (by simp)); clear x ho)
            | (go_at_call 11; have _t := tf4; refine (feed_r _ ez (mbytes ms) (u, y3) none _ 0 _ (Ints.nil _) (rd_bytes (hS.out.get (bytesF (.slice ta4 (mbytes ms).length tc4) (mbytes ms)) (by simp))) hz3.out.1 hz3.out.2 ez_wf hr3.out).mono ?_; clear _t tf4; rintro e w9 ⟨⟨a4, c4, b4, d4, L4, rfl, hI, hL, hq4⟩, x⟩; replace hS := Lib.hid (((hS.out.call x).own hI (by simp)).acts hL (by simp)); clear x hI hL; replace hq4 := Lib.hid hq4)
            | (go_at_call 15; have _t := te2; refine (sameEsc_ _ u a3 a4 c3 c4 (hS.out.get (intsF (.slice a3 u.par.length c3) u.par) (by simp)) (hS.out.get (intsF (.slice a4 u.par.length c4) u.par) (by simp)) hlu).mono ?_; clear _t te2; rintro e w9 ⟨rfl, x⟩; replace hS := Lib.hid (hS.out.call x); clear x)
            | (go_at_call 12; refine (sameActions_t _ L3 L4 y3 b3 b4 d3 d4 (hS.out.get (actsF (.slice b3 L3.length d3) L3) (by simp)) (hS.out.get (actsF (.slice b4 L4.length d4) L4) (by simp)) hq3.out hq4.out hy hs.out).mono ?_; rintro e w9 ⟨rfl, x⟩; replace hS := Lib.hid (hS.out.call x); clear x)
            | (go_at_call 13; refine (awake_ _).mono ?_; rintro e w9 ⟨rfl, x⟩; replace hS := Lib.hid (hS.out.call x); clear x))
        go_ret
        exact ⟨rfl, hS.out.isNew⟩
      · intro K hK
        refine sw (by rfl) ?_
        refine st_made hS.out (by go_simp; (first | done | exact ⟨rfl, rfl⟩)) ?_
        intro w9 hS9; replace hS := Lib.hid hS9; clear hS9
        refine hK _ _ (fun _ => (by repeat (first | exact rows_nil _ | refine rows_here hS.out (by repeat (first | exact At.here | apply At.there)) ?_))) ?_
        clear hK K
        replace hR := rows_of hR w9 (by repeat (first | exact rows_nil _ | refine rows_here hS.out (by repeat (first | exact At.here | apply At.there)) ?_))
        try simp only [Act.put, Act.eval, Array.getD_eq_getD_getElem?, List.getElem?_toArray, List.getElem?_cons_succ, List.getElem?_cons_zero, Option.getD_some, List.setIfInBounds_toArray, List.set_cons_zero, List.set_cons_succ]
        refine wpJ_one 3 (oi := { dst := some 69, op := Op.call { callee := Callee.value (Operand.func 11), args := #[Operand.tmp 66, Operand.tmp 68], argTypes := #[33, 36] }, type := 34, pos := "extra.go:98", after := #[{ on := 0, ground := Ground.data }, { on := 2, ground := Ground.data }, { on := 2, ground := Ground.chain }], guard := none }) rfl (by kernel_rfl) ?_
        intro K hK
        refine sw (by rfl) ?_
        refine st_fn Try.func11 (by kernel_rfl) (by kernel_rfl) rfl (by rfl) _ (feed_r _ ez (mbytes ms) (u, y3) a2 _ c2 _ (hS.out.get (own1 3 1 (.slice a2 0 c2) 0 (ints [])) (by simp)) (rd_bytes (hS.out.get (bytesF (.slice ta3 (mbytes ms).length tc3) (mbytes ms)) (by simp))) hz3.out.1 hz3.out.2 ez_wf hr3.out) ?_
        rintro e w9 ⟨⟨a3, c3, b3, d3, L3, rfl, hI, hL, hq3⟩, x⟩
        refine ⟨_, rfl, ?_⟩
        replace hS := Lib.hid (((hS.out.call x).own hI (by simp)).acts hL (by simp)); clear x hI hL; replace hq3 := Lib.hid hq3
        refine hK _ _ (fun _ => (by repeat (first | exact rows_nil _ | refine rows_here hS.out (by repeat (first | exact At.here | apply At.there)) ?_))) ?_
        clear hK K
        replace hR := rows_of hR w9 (by repeat (first | exact rows_nil _ | refine rows_here hS.out (by repeat (first | exact At.here | apply At.there)) ?_))
        try simp only [Act.put, Act.eval, Array.getD_eq_getD_getElem?, List.getElem?_toArray, List.getElem?_cons_succ, List.getElem?_cons_zero, Option.getD_some, List.setIfInBounds_toArray, List.set_cons_zero, List.set_cons_succ]
        refine wpJ_take 4 (oi := { dst := some 65, op := Op.move (Operand.tmp 69), type := 34, pos := "extra.go:98", after := #[{ on := 3, ground := Ground.data }], guard := none }) rfl (by kernel_rfl) (by kernel_rfl) (fun _ _ _ h => h) hR (y_move (by rfl) rfl (by rfl)) (fun _ => ?_)
        try simp only [Act.put, Act.eval, Array.getD_eq_getD_getElem?, List.getElem?_toArray, List.getElem?_cons_succ, List.getElem?_cons_zero, Option.getD_some, List.setIfInBounds_toArray, List.set_cons_zero, List.set_cons_succ]
        refine wpJ_take 5 (oi := { dst := some 70, op := Op.extract (Operand.tmp 65) 0, type := 33, pos := "extra.go:98", after := #[{ on := 4, ground := Ground.data }], guard := none }) rfl (by kernel_rfl) (by kernel_rfl) (fun _ _ _ h => h) hR (Or.inl ⟨by rfl, (by intro W hW; clear hW; go_simp; (first | done | with_reducible rfl))⟩) (fun _ => ?_)
        try simp only [Act.put, Act.eval, Array.getD_eq_getD_getElem?, List.getElem?_toArray, List.getElem?_cons_succ, List.getElem?_cons_zero, Option.getD_some, List.setIfInBounds_toArray, List.set_cons_zero, List.set_cons_succ]
        refine wpJ_take 6 (oi := { dst := some 71, op := Op.extract (Operand.tmp 65) 1, type := 27, pos := "extra.go:98", after := #[{ on := 4, ground := Ground.data }, { on := 8, ground := Ground.gcOnly Departure.lateStores }], guard := none }) rfl (by kernel_rfl) (by kernel_rfl) (fun _ _ _ h => h) hR (Or.inl ⟨by rfl, (by intro W hW; clear hW; go_simp; (first | done | with_reducible rfl))⟩) (fun _ => ?_)
        try simp only [Act.put, Act.eval, Array.getD_eq_getD_getElem?, List.getElem?_toArray, List.getElem?_cons_succ, List.getElem?_cons_zero, Option.getD_some, List.setIfInBounds_toArray, List.set_cons_zero, List.set_cons_succ]
        refine wpJ_one 8 (oi := { dst := none, op := Op.store 33 (Operand.tmp 12) (Operand.tmp 70), type := 0, pos := "extra.go:98", after := #[{ on := 7, ground := Ground.data }, { on := 5, ground := Ground.data }, { on := 3, ground := Ground.chain }, { on := 0, ground := Ground.phase }, { on := 1, ground := Ground.phase }, { on := 2, ground := Ground.phase }, { on := 3, ground := Ground.phase }, { on := 4, ground := Ground.phase }, { on := 5, ground := Ground.phase }, { on := 6, ground := Ground.textOnly Departure.lateStores }, { on := 7, ground := Ground.phase }], guard := none }) rfl (by kernel_rfl) ?_
        intro K hK
        refine sw (by rfl) ?_
        refine st_storeAll (T := 33) hS.out rfl (by rfl) (by rfl) (by exact Try.size33) (by repeat (first | exact At.here | apply At.there)) (by rfl) (by rfl) ?_; intro w9 hS9; replace hS := Lib.hid hS9; clear hS9
        refine hK _ _ (fun _ => (by repeat (first | exact rows_nil _ | refine rows_here hS.out (by repeat (first | exact At.here | apply At.there)) ?_))) ?_
        clear hK K
        replace hR := rows_of hR w9 (by repeat (first | exact rows_nil _ | refine rows_here hS.out (by repeat (first | exact At.here | apply At.there)) ?_))
        try simp only [Act.put, Act.eval, Array.getD_eq_getD_getElem?, List.getElem?_toArray, List.getElem?_cons_succ, List.getElem?_cons_zero, Option.getD_some, List.setIfInBounds_toArray, List.set_cons_zero, List.set_cons_succ]
        refine wpJ_take 9 (oi := { dst := some 13, op := Op.assign (Operand.tmp 71), type := 27, pos := "extra.go:98", after := #[{ on := 6, ground := Ground.data }, { on := 8, ground := Ground.chain }, { on := 0, ground := Ground.phase }, { on := 1, ground := Ground.phase }, { on := 2, ground := Ground.phase }, { on := 3, ground := Ground.phase }, { on := 4, ground := Ground.phase }, { on := 5, ground := Ground.phase }, { on := 6, ground := Ground.phase }, { on := 7, ground := Ground.phase }, { on := 8, ground := Ground.phase }], guard := none }) rfl (by kernel_rfl) (by kernel_rfl) (fun _ _ _ h => h) hR (y_assign (by rfl) rfl (by rfl)) (fun _ => ?_)
        try simp only [Act.put, Act.eval, Array.getD_eq_getD_getElem?, List.getElem?_toArray, List.getElem?_cons_succ, List.getElem?_cons_zero, Option.getD_some, List.setIfInBounds_toArray, List.set_cons_zero, List.set_cons_succ]
        refine wpJ_done _ (by kernel_rfl) ?_
        go_wp2_with (first
            | (refine wl_made (bs := []) (t := 33) hS.out ?_; intro wB hS9; replace hS := Lib.hid hS9; clear hS9)
            | (refine wl_made (t := 33) hS.out ?_; intro w9 hS9; replace hS := Lib.hid hS9; clear hS9)
            | (refine wl_loadAll (T := 33) hS.out (by rfl) rfl (by rfl) Try.underlying33 rfl Try.size33 (by repeat (first | exact At.here | apply At.there)) (by rfl) ?_)
            | (refine wl_storeAll (T := 33) hS.out (by rfl) rfl (by rfl) (by rfl) (by exact Try.size33) (by repeat (first | exact At.here | apply At.there)) (by rfl) (by rfl) ?_; intro w9 hS9; replace hS := Lib.hid hS9; clear hS9)
            | (go_at_call 16; have _t := tb4; refine (bytes_ _ ms ma mc (hm.out.new hS.out.isNew) hl3.out).mono ?_; clear _t tb4; rintro e w9 ⟨⟨ta4, tc4, rfl, ho, -⟩, x⟩; replace hS := Lib.hid ((hS.out.call x).own ho (by simp)); clear x ho)
            | (go_at_call 11; have _t := tf4; refine (feed_r _ ez (mbytes ms) (u, y3) none _ 0 _ (Ints.nil _) (rd_bytes (hS.out.get (bytesF (.slice ta4 (mbytes ms).length tc4) (mbytes ms)) (by simp))) hz3.out.1 hz3.out.2 ez_wf hr3.out).mono ?_; clear _t tf4; rintro e w9 ⟨⟨a4, c4, b4, d4, L4, rfl, hI, hL, hq4⟩, x⟩; replace hS := Lib.hid (((hS.out.call x).own hI (by simp)).acts hL (by simp)); clear x hI hL; replace hq4 := Lib.hid hq4)
            | (go_at_call 15; have _t := te2; refine (sameEsc_ _ u a3 a4 c3 c4 (hS.out.get (intsF (.slice a3 u.par.length c3) u.par) (by simp)) (hS.out.get (intsF (.slice a4 u.par.length c4) u.par) (by simp)) hlu).mono ?_; clear _t te2; rintro e w9 ⟨rfl, x⟩; replace hS := Lib.hid (hS.out.call x); clear x)
            | (go_at_call 12; refine (sameActions_t _ L3 L4 y3 b3 b4 d3 d4 (hS.out.get (actsF (.slice b3 L3.length d3) L3) (by simp)) (hS.out.get (actsF (.slice b4 L4.length d4) L4) (by simp)) hq3.out hq4.out hy hs.out).mono ?_; rintro e w9 ⟨rfl, x⟩; replace hS := Lib.hid (hS.out.call x); clear x)
            | (go_at_call 13; refine (awake_ _).mono ?_; rintro e w9 ⟨rfl, x⟩; replace hS := Lib.hid (hS.out.call x); clear x))
        go_ret
        exact ⟨rfl, hS.out.isNew⟩
    · intro K hK
      refine sw (by rfl) ?_
      refine st_made hS.out (by go_simp; (first | done | exact ⟨rfl, rfl⟩)) ?_
      intro w9 hS9; replace hS := Lib.hid hS9; clear hS9
      refine hK _ _ (fun _ => (by repeat (first | exact rows_nil _ | refine rows_here hS.out (by repeat (first | exact At.here | apply At.there)) ?_))) ?_
      clear hK K
      replace hR := rows_of hR w9 (by repeat (first | exact rows_nil _ | refine rows_here hS.out (by repeat (first | exact At.here | apply At.there)) ?_))
      try simp only [Act.put, Act.eval, Array.getD_eq_getD_getElem?, List.getElem?_toArray, List.getElem?_cons_succ, List.getElem?_cons_zero, Option.getD_some, List.setIfInBounds_toArray, List.set_cons_zero, List.set_cons_succ]
      refine wpJ_one 2 (oi := { dst := some 68, op := Op.call { callee := Callee.value (Operand.func 16), args := #[Operand.tmp 67], argTypes := #[22] }, type := 36, pos := "extra.go:98", after := #[{ on := 1, ground := Ground.data }], guard := none }) rfl (by kernel_rfl) ?_
      intro K hK
      refine sw (by rfl) ?_
      refine st_fn Try.func16 (by kernel_rfl) (by kernel_rfl) rfl (by rfl) _ (bytes_ _ ms ma mc (hm.out.new hS.out.isNew) hl3.out) ?_
      rintro e w9 ⟨⟨ta3, tc3, rfl, ho, -⟩, x⟩
      refine ⟨_, rfl, ?_⟩
      replace hS := Lib.hid ((hS.out.call x).own ho (by simp)); clear x ho
      refine hK _ _ (fun _ => (by repeat (first | exact rows_nil _ | refine rows_here hS.out (by repeat (first | exact At.here | apply At.there)) ?_))) ?_
      clear hK K
      replace hR := rows_of hR w9 (by repeat (first | exact rows_nil _ | refine rows_here hS.out (by repeat (first | exact At.here | apply At.there)) ?_))
      try simp only [Act.put, Act.eval, Array.getD_eq_getD_getElem?, List.getElem?_toArray, List.getElem?_cons_succ, List.getElem?_cons_zero, Option.getD_some, List.setIfInBounds_toArray, List.set_cons_zero, List.set_cons_succ]
      refine wpJ_one 3 (oi := { dst := some 69, op := Op.call { callee := Callee.value (Operand.func 11), args := #[Operand.tmp 66, Operand.tmp 68], argTypes := #[33, 36] }, type := 34, pos := "extra.go:98", after := #[{ on := 0, ground := Ground.data }, { on := 2, ground := Ground.data }, { on := 2, ground := Ground.chain }], guard := none }) rfl (by kernel_rfl) ?_
      intro K hK
      refine sw (by rfl) ?_
      refine st_fn Try.func11 (by kernel_rfl) (by kernel_rfl) rfl (by rfl) _ (feed_r _ ez (mbytes ms) (u, y3) a2 _ c2 _ (hS.out.get (own1 3 1 (.slice a2 0 c2) 0 (ints [])) (by simp)) (rd_bytes (hS.out.get (bytesF (.slice ta3 (mbytes ms).length tc3) (mbytes ms)) (by simp))) hz3.out.1 hz3.out.2 ez_wf hr3.out) ?_
      rintro e w9 ⟨⟨a3, c3, b3, d3, L3, rfl, hI, hL, hq3⟩, x⟩
      refine ⟨_, rfl, ?_⟩
      replace hS := Lib.hid (((hS.out.call x).own hI (by simp)).acts hL (by simp)); clear x hI hL; replace hq3 := Lib.hid hq3
      refine hK _ _ (fun _ => (by repeat (first | exact rows_nil _ | refine rows_here hS.out (by repeat (first | exact At.here | apply At.there)) ?_))) ?_
      clear hK K
      replace hR := rows_of hR w9 (by repeat (first | exact rows_nil _ | refine rows_here hS.out (by repeat (first | exact At.here | apply At.there)) ?_))
      try simp only [Act.put, Act.eval, Array.getD_eq_getD_getElem?, List.getElem?_toArray, List.getElem?_cons_succ, List.getElem?_cons_zero, Option.getD_some, List.setIfInBounds_toArray, List.set_cons_zero, List.set_cons_succ]
      refine wpJ_take 4 (oi := { dst := some 65, op := Op.move (Operand.tmp 69), type := 34, pos := "extra.go:98", after := #[{ on := 3, ground := Ground.data }], guard := none }) rfl (by kernel_rfl) (by kernel_rfl) (fun _ _ _ h => h) hR (y_move (by rfl) rfl (by rfl)) (fun _ => ?_)
      try simp only [Act.put, Act.eval, Array.getD_eq_getD_getElem?, List.getElem?_toArray, List.getElem?_cons_succ, List.getElem?_cons_zero, Option.getD_some, List.setIfInBounds_toArray, List.set_cons_zero, List.set_cons_succ]
      refine wpJ_take 5 (oi := { dst := some 70, op := Op.extract (Operand.tmp 65) 0, type := 33, pos := "extra.go:98", after := #[{ on := 4, ground := Ground.data }], guard := none }) rfl (by kernel_rfl) (by kernel_rfl) (fun _ _ _ h => h) hR (Or.inl ⟨by rfl, (by intro W hW; clear hW; go_simp; (first | done | with_reducible rfl))⟩) (fun _ => ?_)
      try simp only [Act.put, Act.eval, Array.getD_eq_getD_getElem?, List.getElem?_toArray, List.getElem?_cons_succ, List.getElem?_cons_zero, Option.getD_some, List.setIfInBounds_toArray, List.set_cons_zero, List.set_cons_succ]
      refine wpJ_take 6 (oi := { dst := some 71, op := Op.extract (Operand.tmp 65) 1, type := 27, pos := "extra.go:98", after := #[{ on := 4, ground := Ground.data }, { on := 8, ground := Ground.gcOnly Departure.lateStores }], guard := none }) rfl (by kernel_rfl) (by kernel_rfl) (fun _ _ _ h => h) hR (Or.inl ⟨by rfl, (by intro W hW; clear hW; go_simp; (first | done | with_reducible rfl))⟩) (fun _ => ?_)
      try simp only [Act.put, Act.eval, Array.getD_eq_getD_getElem?, List.getElem?_toArray, List.getElem?_cons_succ, List.getElem?_cons_zero, Option.getD_some, List.setIfInBounds_toArray, List.set_cons_zero, List.set_cons_succ]
      refine wpJ_one 8 (oi := { dst := none, op := Op.store 33 (Operand.tmp 12) (Operand.tmp 70), type := 0, pos := "extra.go:98", after := #[{ on := 7, ground := Ground.data }, { on := 5, ground := Ground.data }, { on := 3, ground := Ground.chain }, { on := 0, ground := Ground.phase }, { on := 1, ground := Ground.phase }, { on := 2, ground := Ground.phase }, { on := 3, ground := Ground.phase }, { on := 4, ground := Ground.phase }, { on := 5, ground := Ground.phase }, { on := 6, ground := Ground.textOnly Departure.lateStores }, { on := 7, ground := Ground.phase }], guard := none }) rfl (by kernel_rfl) ?_
      intro K hK
      refine sw (by rfl) ?_
      refine st_storeAll (T := 33) hS.out rfl (by rfl) (by rfl) (by exact Try.size33) (by repeat (first | exact At.here | apply At.there)) (by rfl) (by rfl) ?_; intro w9 hS9; replace hS := Lib.hid hS9; clear hS9
      refine hK _ _ (fun _ => (by repeat (first | exact rows_nil _ | refine rows_here hS.out (by repeat (first | exact At.here | apply At.there)) ?_))) ?_
      clear hK K
      replace hR := rows_of hR w9 (by repeat (first | exact rows_nil _ | refine rows_here hS.out (by repeat (first | exact At.here | apply At.there)) ?_))
      try simp only [Act.put, Act.eval, Array.getD_eq_getD_getElem?, List.getElem?_toArray, List.getElem?_cons_succ, List.getElem?_cons_zero, Option.getD_some, List.setIfInBounds_toArray, List.set_cons_zero, List.set_cons_succ]
      refine wpJ_take 9 (oi := { dst := some 13, op := Op.assign (Operand.tmp 71), type := 27, pos := "extra.go:98", after := #[{ on := 6, ground := Ground.data }, { on := 8, ground := Ground.chain }, { on := 0, ground := Ground.phase }, { on := 1, ground := Ground.phase }, { on := 2, ground := Ground.phase }, { on := 3, ground := Ground.phase }, { on := 4, ground := Ground.phase }, { on := 5, ground := Ground.phase }, { on := 6, ground := Ground.phase }, { on := 7, ground := Ground.phase }, { on := 8, ground := Ground.phase }], guard := none }) rfl (by kernel_rfl) (by kernel_rfl) (fun _ _ _ h => h) hR (y_assign (by rfl) rfl (by rfl)) (fun _ => ?_)
      try simp only [Act.put, Act.eval, Array.getD_eq_getD_getElem?, List.getElem?_toArray, List.getElem?_cons_succ, List.getElem?_cons_zero, Option.getD_some, List.setIfInBounds_toArray, List.set_cons_zero, List.set_cons_succ]
      refine wpJ_done _ (by kernel_rfl) ?_
      go_wp2_with (first
          | (refine wl_made (bs := []) (t := 33) hS.out ?_; intro wB hS9; replace hS := Lib.hid hS9; clear hS9)
          | (refine wl_made (t := 33) hS.out ?_; intro w9 hS9; replace hS := Lib.hid hS9; clear hS9)
          | (refine wl_loadAll (T := 33) hS.out (by rfl) rfl (by rfl) Try.underlying33 rfl Try.size33 (by repeat (first | exact At.here | apply At.there)) (by rfl) ?_)
          | (refine wl_storeAll (T := 33) hS.out (by rfl) rfl (by rfl) (by rfl) (by exact Try.size33) (by repeat (first | exact At.here | apply At.there)) (by rfl) (by rfl) ?_; intro w9 hS9; replace hS := Lib.hid hS9; clear hS9)
          | (go_at_call 16; have _t := tb4; refine (bytes_ _ ms ma mc (hm.out.new hS.out.isNew) hl3.out).mono ?_; clear _t tb4; rintro e w9 ⟨⟨ta4, tc4, rfl, ho, -⟩, x⟩; replace hS := Lib.hid ((hS.out.call x).own ho (by simp)); clear x ho)
          | (go_at_call 11; have _t := tf4; refine (feed_r _ ez (mbytes ms) (u, y3) none _ 0 _ (Ints.nil _) (rd_bytes (hS.out.get (bytesF (.slice ta4 (mbytes ms).length tc4) (mbytes ms)) (by simp))) hz3.out.1 hz3.out.2 ez_wf hr3.out).mono ?_; clear _t tf4; rintro e w9 ⟨⟨a4, c4, b4, d4, L4, rfl, hI, hL, hq4⟩, x⟩; replace hS := Lib.hid (((hS.out.call x).own hI (by simp)).acts hL (by simp)); clear x hI hL; replace hq4 := Lib.hid hq4)
          | (go_at_call 15; have _t := te2; refine (sameEsc_ _ u a3 a4 c3 c4 (hS.out.get (intsF (.slice a3 u.par.length c3) u.par) (by simp)) (hS.out.get (intsF (.slice a4 u.par.length c4) u.par) (by simp)) hlu).mono ?_; clear _t te2; rintro e w9 ⟨rfl, x⟩; replace hS := Lib.hid (hS.out.call x); clear x)
          | (go_at_call 12; refine (sameActions_t _ L3 L4 y3 b3 b4 d3 d4 (hS.out.get (actsF (.slice b3 L3.length d3) L3) (by simp)) (hS.out.get (actsF (.slice b4 L4.length d4) L4) (by simp)) hq3.out hq4.out hy hs.out).mono ?_; rintro e w9 ⟨rfl, x⟩; replace hS := Lib.hid (hS.out.call x); clear x)
          | (go_at_call 13; refine (awake_ _).mono ?_; rintro e w9 ⟨rfl, x⟩; replace hS := Lib.hid (hS.out.call x); clear x))
      go_ret
      exact ⟨rfl, hS.out.isNew⟩
set_option maxHeartbeats 8000000 in
set_option maxRecDepth 100000 in
theorem cancel_c (w : World) (xs ms : List Int) (la ma : Option Addr) (lc mc : Nat) (sub : Bool) (hl : Rd .i64 w la xs) (hl2 : xs.length ≤ maxLen) (hm : Rd .i64 w ma ms) (hl3 : ms.length ≤ maxLen) (s1 u : Es) (x1 y3 : List Ac) (h1 : mfeed (mbytes xs) ez [] = (s1, x1)) (hw1 : Wf s1) (hm5 : s1.m ≠ 5) (hnd : s1.nd ≠ 0)
    (h24 : mfeed [if sub = true then 26 else 24] s1 [] = (ez, [⟨1, 65533, []⟩])) (h3 : mfeed (mbytes ms) ez [] = (u, y3)) :
    Calls Try.prog 6 #[.slice la xs.length lc, .bool sub, .slice ma ms.length mc] w fun e w' => e = .returned (.bool true) ∧ New w w' := by
  have hS : St (fun _ => False) w w [] [] := St.init w
  replace hS := Lib.hid hS
  replace hl := Lib.hid hl
  replace hl2 := Lib.hid hl2
  replace hm := Lib.hid hm
  replace hl3 := Lib.hid hl3
  have g5 : (s1.m == 5) = false := beq_eq_false_iff_ne.2 hm5
  have gn : (s1.nd == 0) = false := beq_eq_false_iff_ne.2 hnd
  clear hm5 hnd
  have hz1 := Lib.hid (And.intro (mbytes_bd xs) (show (mbytes xs).length ≤ 100000 from Nat.le_trans (mbytes_len xs) (by decide)))
  have hz3 := Lib.hid (And.intro (mbytes_bd ms) (show (mbytes ms).length ≤ 100000 from Nat.le_trans (mbytes_len ms) (by decide)))
  have hfd := wf_feed (mbytes ms) (mbytes_bd ms) ez [] ez_wf
  have hsm := small_feed (mbytes ms) (mbytes_bd ms) ez [] ez_wf small_nil
  rw [h3] at hfd hsm
  have hlu : u.par.length ≤ 1000 := by have := hfd.1.2.1; simp only at this; omega
  have hy : y3.length ≤ 1000000 := by have := hfd.2; have := mbytes_len ms; simp at *; omega
  have hs := Lib.hid (show ∀ y ∈ y3, y.par.length ≤ 1000 from hsm)
  clear hfd hsm
  have hw2 := Lib.hid hw1
  have hr1 := Lib.hid h1
  have hr2 := Lib.hid h24
  have hr3 := Lib.hid h3
  clear hw1 h1 h24 h3
  have hw1 := Lib.hid ez_wf
  have tb1 : True := trivial
  have tb4 : True := trivial
  have tf1 : True := trivial
  have tf2 : True := trivial
  have tf4 : True := trivial
  have te1 : True := trivial
  have te2 : True := trivial
  cases sub
  all_goals
    simp only [if_true, if_false, Bool.false_eq_true] at hr2
    go_enter Try.func6, Try.ntmps6
    go_wp2_with (first
    | (refine wl_made (bs := []) (t := 33) hS.out ?_; intro wB hS9; replace hS := Lib.hid hS9; clear hS9)
    | (refine wl_made (t := 33) hS.out ?_; intro w9 hS9; replace hS := Lib.hid hS9; clear hS9)
    | (refine wl_made (bs := []) (t := 5) hS.out ?_; intro wB hS9; replace hS := Lib.hid hS9; clear hS9)
    | (refine wl_made (t := 5) hS.out ?_; intro w9 hS9; replace hS := Lib.hid hS9; clear hS9)
    | (refine wl_load1 (T := 3) hS.out (by rfl) rfl (by rfl) Try.underlying3 rfl (by repeat (first | exact At.here | apply At.there)) (by rfl) ?_)
    | (refine wl_loadAll (T := 33) hS.out (by rfl) rfl (by rfl) Try.underlying33 rfl Try.size33 (by repeat (first | exact At.here | apply At.there)) (by rfl) ?_)
    | (refine wl_storeAll (T := 33) hS.out (by rfl) rfl (by rfl) (by rfl) (by exact Try.size33) (by repeat (first | exact At.here | apply At.there)) (by rfl) (by rfl) ?_; intro w9 hS9; replace hS := Lib.hid hS9; clear hS9)
    | (go_at_call 16; have _t := tb1; refine (bytes_ _ xs la lc (hl.out.new hS.out.isNew) hl2.out).mono ?_; clear _t tb1; rintro e w9 ⟨⟨ta1, tc1, rfl, ho, -⟩, x⟩; replace hS := Lib.hid ((hS.out.call x).own ho (by simp)); clear x ho)
    | (go_at_call 11; have _t := tf1; refine (feed_r _ ez (mbytes xs) (s1, x1) none _ 0 _ (Ints.nil _) (rd_bytes (hS.out.get (bytesF (.slice ta1 (mbytes xs).length tc1) (mbytes xs)) (by simp))) hz1.out.1 hz1.out.2 hw1.out hr1.out).mono ?_; clear _t tf1; rintro e w9 ⟨⟨a1, c1, b1, d1, L1, rfl, hI, hL, hq1⟩, x⟩; replace hS := Lib.hid (((hS.out.call x).own hI (by simp)).acts hL (by simp)); clear x hI hL; replace hq1 := Lib.hid hq1)
    | (go_at_call 11; have _t := tf2; refine (feed_r _ s1 [24] (ez, [⟨1, 65533, []⟩]) a1 _ c1 _ (hS.out.get (intsF (.slice a1 s1.par.length c1) s1.par) (by simp)) (rd_row (hS.out.row (t := 5) (cs := bytesV [24]) (cs' := []) (bs' := _) (by repeat (first | exact At.here | apply At.there)))) (by decide) (by decide) hw2.out hr2.out).mono ?_; clear _t tf2; rintro e w9 ⟨⟨a2, c2, b2, d2, L2, rfl, hI, hL, hq2⟩, x⟩; replace hS := Lib.hid ((((hS.out.call x).forget (List.sublist_cons_self _ _)).own hI (by simp)).acts hL (by simp)); clear x hI hL; obtain ⟨p2, rfl⟩ := acs_one hq2; replace hq2 := Lib.hid hq2)
    | (go_at_call 11; have _t := tf2; refine (feed_r _ s1 [26] (ez, [⟨1, 65533, []⟩]) a1 _ c1 _ (hS.out.get (intsF (.slice a1 s1.par.length c1) s1.par) (by simp)) (rd_row (hS.out.row (t := 5) (cs := bytesV [26]) (cs' := []) (bs' := _) (by repeat (first | exact At.here | apply At.there)))) (by decide) (by decide) hw2.out hr2.out).mono ?_; clear _t tf2; rintro e w9 ⟨⟨a2, c2, b2, d2, L2, rfl, hI, hL, hq2⟩, x⟩; replace hS := Lib.hid ((((hS.out.call x).forget (List.sublist_cons_self _ _)).own hI (by simp)).acts hL (by simp)); clear x hI hL; obtain ⟨p2, rfl⟩ := acs_one hq2; replace hq2 := Lib.hid hq2)
    | (go_at_call 15; have _t := te1; refine (sameEz _ a2 none c2 0 (hS.out.get (own1 3 1 (.slice a2 0 c2) 0 (ints [])) (by simp)) (Ints.nil _)).mono ?_; clear _t te1; rintro e w9 ⟨rfl, x⟩; replace hS := Lib.hid (hS.out.call x); clear x))
    refine region_St1 hS.out 0 (fun _ => true) (by kernel_rfl) (by rfl) ?_
    intro w9 hR hS9; replace hS := Lib.hid hS9; clear hS9
    refine wpJ_take 0 (oi := { dst := some 66, op := Op.load 33 (Operand.tmp 10), type := 33, pos := "extra.go:98", after := #[], guard := none }) rfl (by kernel_rfl) (by kernel_rfl) (fun _ _ _ h => h) hR (y_loadAll (T := 33) (by rfl) rfl (by rfl) Try.underlying33 rfl Try.size33 (by repeat (first | exact At.here | apply At.there)) (by rfl)) (fun _ => ?_)
    try simp only [Act.put, Act.eval, Array.getD_eq_getD_getElem?, List.getElem?_toArray, List.getElem?_cons_succ, List.getElem?_cons_zero, Option.getD_some, List.setIfInBounds_toArray, List.set_cons_zero, List.set_cons_succ]
    refine wpJ_take 1 (oi := { dst := some 67, op := Op.move (Operand.tmp 2), type := 22, pos := "extra.go:98", after := #[], guard := none }) rfl (by kernel_rfl) (by kernel_rfl) (fun _ _ _ h => h) hR (y_move (by rfl) rfl (by rfl)) (fun _ => ?_)
    try simp only [Act.put, Act.eval, Array.getD_eq_getD_getElem?, List.getElem?_toArray, List.getElem?_cons_succ, List.getElem?_cons_zero, Option.getD_some, List.setIfInBounds_toArray, List.set_cons_zero, List.set_cons_succ]
    refine wpJ_two 2 7 (oi := { dst := some 68, op := Op.call { callee := Callee.value (Operand.func 16), args := #[Operand.tmp 67], argTypes := #[22] }, type := 36, pos := "extra.go:98", after := #[{ on := 1, ground := Ground.data }], guard := none }) (ok := { dst := some 12, op := Op.alloc 33, type := 0, pos := "extra.go:98", after := #[], guard := none }) rfl rfl (by kernel_rfl) ?_ ?_
    · intro K hK
      refine sw (by rfl) ?_
      refine st_fn Try.func16 (by kernel_rfl) (by kernel_rfl) rfl (by rfl) _ (bytes_ _ ms ma mc (hm.out.new hS.out.isNew) hl3.out) ?_
      rintro e w9 ⟨⟨ta3, tc3, rfl, ho, -⟩, x⟩
      refine ⟨_, rfl, ?_⟩
      replace hS := Lib.hid ((hS.out.call x).own ho (by simp)); clear x ho
      refine hK _ _ (fun _ => (by repeat (first | exact rows_nil _ | refine rows_here hS.out (by repeat (first | exact At.here | apply At.there)) ?_))) ?_
      clear hK K
      replace hR := rows_of hR w9 (by repeat (first | exact rows_nil _ | refine rows_here hS.out (by repeat (first | exact At.here | apply At.there)) ?_))
      try simp only [Act.put, Act.eval, Array.getD_eq_getD_getElem?, List.getElem?_toArray, List.getElem?_cons_succ, List.getElem?_cons_zero, Option.getD_some, List.setIfInBounds_toArray, List.set_cons_zero, List.set_cons_succ]
      refine wpJ_two 3 7 (oi := { dst := some 69, op := Op.call { callee := Callee.value (Operand.func 11), args := #[Operand.tmp 66, Operand.tmp 68], argTypes := #[33, 36] }, type := 34, pos := "extra.go:98", after := #[{ on := 0, ground := Ground.data }, { on := 2, ground := Ground.data }, { on := 2, ground := Ground.chain }], guard := none }) (ok := { dst := some 12, op := Op.alloc 33, type := 0, pos := "extra.go:98", after := #[], guard := none }) rfl rfl (by kernel_rfl) ?_ ?_
      · intro K hK
        refine sw (by rfl) ?_
        refine st_fn Try.func11 (by kernel_rfl) (by kernel_rfl) rfl (by rfl) _ (feed_r _ ez (mbytes ms) (u, y3) a2 _ c2 _ (hS.out.get (own1 3 1 (.slice a2 0 c2) 0 (ints [])) (by simp)) (rd_bytes (hS.out.get (bytesF (.slice ta3 (mbytes ms).length tc3) (mbytes ms)) (by simp))) hz3.out.1 hz3.out.2 ez_wf hr3.out) ?_
        rintro e w9 ⟨⟨a3, c3, b3, d3, L3, rfl, hI, hL, hq3⟩, x⟩
        refine ⟨_, rfl, ?_⟩
        replace hS := Lib.hid (((hS.out.call x).own hI (by simp)).acts hL (by simp)); clear x hI hL; replace hq3 := Lib.hid hq3
        refine hK _ _ (fun _ => (by repeat (first | exact rows_nil _ | refine rows_here hS.out (by repeat (first | exact At.here | apply At.there)) ?_))) ?_
        clear hK K
        replace hR := rows_of hR w9 (by repeat (first | exact rows_nil _ | refine rows_here hS.out (by repeat (first | exact At.here | apply At.there)) ?_))
        try simp only [Act.put, Act.eval, Array.getD_eq_getD_getElem?, List.getElem?_toArray, List.getElem?_cons_succ, List.getElem?_cons_zero, Option.getD_some, List.setIfInBounds_toArray, List.set_cons_zero, List.set_cons_succ]
        refine wpJ_take 4 (oi := { dst := some 65, op := Op.move (Operand.tmp 69), type := 34, pos := "extra.go:98", after := #[{ on := 3, ground := Ground.data }], guard := none }) rfl (by kernel_rfl) (by kernel_rfl) (fun _ _ _ h => h) hR (y_move (by rfl) rfl (by rfl)) (fun _ => ?_)
        try simp only [Act.put, Act.eval, Array.getD_eq_getD_getElem?, List.getElem?_toArray, List.getElem?_cons_succ, List.getElem?_cons_zero, Option.getD_some, List.setIfInBounds_toArray, List.set_cons_zero, List.set_cons_succ]
        refine wpJ_take 5 (oi := { dst := some 70, op := Op.extract (Operand.tmp 65) 0, type := 33, pos := "extra.go:98", after := #[{ on := 4, ground := Ground.data }], guard := none }) rfl (by kernel_rfl) (by kernel_rfl) (fun _ _ _ h => h) hR (Or.inl ⟨by rfl, (by intro W hW; clear hW; go_simp; (first | done | with_reducible rfl))⟩) (fun _ => ?_)
        try simp only [Act.put, Act.eval, Array.getD_eq_getD_getElem?, List.getElem?_toArray, List.getElem?_cons_succ, List.getElem?_cons_zero, Option.getD_some, List.setIfInBounds_toArray, List.set_cons_zero, List.set_cons_succ]
        refine wpJ_take 6 (oi := { dst := some 71, op := Op.extract (Operand.tmp 65) 1, type := 27, pos := "extra.go:98", after := #[{ on := 4, ground := Ground.data }, { on := 8, ground := Ground.gcOnly Departure.lateStores }], guard := none }) rfl (by kernel_rfl) (by kernel_rfl) (fun _ _ _ h => h) hR (Or.inl ⟨by rfl, (by intro W hW; clear hW; go_simp; (first | done | with_reducible rfl))⟩) (fun _ => ?_)
        try simp only [Act.put, Act.eval, Array.getD_eq_getD_getElem?, List.getElem?_toArray, List.getElem?_cons_succ, List.getElem?_cons_zero, Option.getD_some, List.setIfInBounds_toArray, List.set_cons_zero, List.set_cons_succ]
        refine wpJ_one 7 (oi := { dst := some 12, op := Op.alloc 33, type := 0, pos := "extra.go:98", after := #[], guard := none }) rfl (by kernel_rfl) ?_
        intro K hK
        refine sw (by rfl) ?_
        refine st_made hS.out (by go_simp; (first | done | exact ⟨rfl, rfl⟩)) ?_
        intro w9 hS9; replace hS := Lib.hid hS9; clear hS9
        refine hK _ _ (fun _ => (by repeat (first | exact rows_nil _ | refine rows_here hS.out (by repeat (first | exact At.here | apply At.there)) ?_))) ?_
        clear hK K
        replace hR := rows_of hR w9 (by repeat (first | exact rows_nil _ | refine rows_here hS.out (by repeat (first | exact At.here | apply At.there)) ?_))
        try simp only [Act.put, Act.eval, Array.getD_eq_getD_getElem?, List.getElem?_toArray, List.getElem?_cons_succ, List.getElem?_cons_zero, Option.getD_some, List.setIfInBounds_toArray, List.set_cons_zero, List.set_cons_succ]
        refine wpJ_one 8 (oi := { dst := none, op := Op.store 33 (Operand.tmp 12) (Operand.tmp 70), type := 0, pos := "extra.go:98", after := #[{ on := 7, ground := Ground.data }, { on := 5, ground := Ground.data }, { on := 3, ground := Ground.chain }, { on := 0, ground := Ground.phase }, { on := 1, ground := Ground.phase }, { on := 2, ground := Ground.phase }, { on := 3, ground := Ground.phase }, { on := 4, ground := Ground.phase }, { on := 5, ground := Ground.phase }, { on := 6, ground := Ground.textOnly Departure.lateStores }, { on := 7, ground := Ground.phase }], guard := none }) rfl (by kernel_rfl) ?_
        intro K hK
        refine sw (by rfl) ?_
        refine st_storeAll (T := 33) hS.out rfl (by rfl) (by rfl) (by exact Try.size33) (by repeat (first | exact At.here | apply At.there)) (by rfl) (by rfl) ?_; intro w9 hS9; replace hS := Lib.hid hS9; clear hS9
        refine hK _ _ (fun _ => (by repeat (first | exact rows_nil _ | refine rows_here hS.out (by repeat (first | exact At.here | apply At.there)) ?_))) ?_
        clear hK K
        replace hR := rows_of hR w9 (by repeat (first | exact rows_nil _ | refine rows_here hS.out (by repeat (first | exact At.here | apply At.there)) ?_))
        try simp only [Act.put, Act.eval, Array.getD_eq_getD_getElem?, List.getElem?_toArray, List.getElem?_cons_succ, List.getElem?_cons_zero, Option.getD_some, List.setIfInBounds_toArray, List.set_cons_zero, List.set_cons_succ]
        refine wpJ_take 9 (oi := { dst := some 13, op := Op.assign (Operand.tmp 71), type := 27, pos := "extra.go:98", after := #[{ on := 6, ground := Ground.data }, { on := 8, ground := Ground.chain }, { on := 0, ground := Ground.phase }, { on := 1, ground := Ground.phase }, { on := 2, ground := Ground.phase }, { on := 3, ground := Ground.phase }, { on := 4, ground := Ground.phase }, { on := 5, ground := Ground.phase }, { on := 6, ground := Ground.phase }, { on := 7, ground := Ground.phase }, { on := 8, ground := Ground.phase }], guard := none }) rfl (by kernel_rfl) (by kernel_rfl) (fun _ _ _ h => h) hR (y_assign (by rfl) rfl (by rfl)) (fun _ => ?_)
        try simp only [Act.put, Act.eval, Array.getD_eq_getD_getElem?, List.getElem?_toArray, List.getElem?_cons_succ, List.getElem?_cons_zero, Option.getD_some, List.setIfInBounds_toArray, List.set_cons_zero, List.set_cons_succ]
        refine wpJ_done _ (by kernel_rfl) ?_
        go_wp2_with (first
            | (refine wl_made (bs := []) (t := 33) hS.out ?_; intro wB hS9; replace hS := Lib.hid hS9; clear hS9)
            | (refine wl_made (t := 33) hS.out ?_; intro w9 hS9; replace hS := Lib.hid hS9; clear hS9)
            | (refine wl_loadAll (T := 33) hS.out (by rfl) rfl (by rfl) Try.underlying33 rfl Try.size33 (by repeat (first | exact At.here | apply At.there)) (by rfl) ?_)
            | (refine wl_storeAll (T := 33) hS.out (by rfl) rfl (by rfl) (by rfl) (by exact Try.size33) (by repeat (first | exact At.here | apply At.there)) (by rfl) (by rfl) ?_; intro w9 hS9; replace hS := Lib.hid hS9; clear hS9)
            | (go_at_call 16; have _t := tb4; refine (bytes_ _ ms ma mc (hm.out.new hS.out.isNew) hl3.out).mono ?_; clear _t tb4; rintro e w9 ⟨⟨ta4, tc4, rfl, ho, -⟩, x⟩; replace hS := Lib.hid ((hS.out.call x).own ho (by simp)); clear x ho)
            | (go_at_call 11; have _t := tf4; refine (feed_r _ ez (mbytes ms) (u, y3) none _ 0 _ (Ints.nil _) (rd_bytes (hS.out.get (bytesF (.slice ta4 (mbytes ms).length tc4) (mbytes ms)) (by simp))) hz3.out.1 hz3.out.2 ez_wf hr3.out).mono ?_; clear _t tf4; rintro e w9 ⟨⟨a4, c4, b4, d4, L4, rfl, hI, hL, hq4⟩, x⟩; replace hS := Lib.hid (((hS.out.call x).own hI (by simp)).acts hL (by simp)); clear x hI hL; replace hq4 := Lib.hid hq4)
            | (go_at_call 15; have _t := te2; refine (sameEsc_ _ u a3 a4 c3 c4 (hS.out.get (intsF (.slice a3 u.par.length c3) u.par) (by simp)) (hS.out.get (intsF (.slice a4 u.par.length c4) u.par) (by simp)) hlu).mono ?_; clear _t te2; rintro e w9 ⟨rfl, x⟩; replace hS := Lib.hid (hS.out.call x); clear x)
            | (go_at_call 12; refine (sameActions_t _ L3 L4 y3 b3 b4 d3 d4 (hS.out.get (actsF (.slice b3 L3.length d3) L3) (by simp)) (hS.out.get (actsF (.slice b4 L4.length d4) L4) (by simp)) hq3.out hq4.out hy hs.out).mono ?_; rintro e w9 ⟨rfl, x⟩; replace hS := Lib.hid (hS.out.call x); clear x)
            | (go_at_call 13; refine (awake_ _).mono ?_; rintro e w9 ⟨rfl, x⟩; replace hS := Lib.hid (hS.out.call x); clear x))
        go_ret
        exact ⟨rfl, hS.out.isNew⟩
      · intro K hK
        refine sw (by rfl) ?_
        refine st_made hS.out (by go_simp; (first | done | exact ⟨rfl, rfl⟩)) ?_
        intro w9 hS9; replace hS := Lib.hid hS9; clear hS9
        refine hK _ _ (fun _ => (by repeat (first | exact rows_nil _ | refine rows_here hS.out (by repeat (first | exact At.here | apply At.there)) ?_))) ?_
        clear hK K
        replace hR := rows_of hR w9 (by repeat (first | exact rows_nil _ | refine rows_here hS.out (by repeat (first | exact At.here | apply At.there)) ?_))
        try simp only [Act.put, Act.eval, Array.getD_eq_getD_getElem?, List.getElem?_toArray, List.getElem?_cons_succ, List.getElem?_cons_zero, Option.getD_some, List.setIfInBounds_toArray, List.set_cons_zero, List.set_cons_succ]
        refine wpJ_one 3 (oi := { dst := some 69, op := Op.call { callee := Callee.value (Operand.func 11), args := #[Operand.tmp 66, Operand.tmp 68], argTypes := #[33, 36] }, type := 34, pos := "extra.go:98", after := #[{ on := 0, ground := Ground.data }, { on := 2, ground := Ground.data }, { on := 2, ground := Ground.chain }], guard := none }) rfl (by kernel_rfl) ?_
        intro K hK
        refine sw (by rfl) ?_
        refine st_fn Try.func11 (by kernel_rfl) (by kernel_rfl) rfl (by rfl) _ (feed_r _ ez (mbytes ms) (u, y3) a2 _ c2 _ (hS.out.get (own1 3 1 (.slice a2 0 c2) 0 (ints [])) (by simp)) (rd_bytes (hS.out.get (bytesF (.slice ta3 (mbytes ms).length tc3) (mbytes ms)) (by simp))) hz3.out.1 hz3.out.2 ez_wf hr3.out) ?_
        rintro e w9 ⟨⟨a3, c3, b3, d3, L3, rfl, hI, hL, hq3⟩, x⟩
        refine ⟨_, rfl, ?_⟩
        replace hS := Lib.hid (((hS.out.call x).own hI (by simp)).acts hL (by simp)); clear x hI hL; replace hq3 := Lib.hid hq3
        refine hK _ _ (fun _ => (by repeat (first | exact rows_nil _ | refine rows_here hS.out (by repeat (first | exact At.here | apply At.there)) ?_))) ?_
        clear hK K
        replace hR := rows_of hR w9 (by repeat (first | exact rows_nil _ | refine rows_here hS.out (by repeat (first | exact At.here | apply At.there)) ?_))
        try simp only [Act.put, Act.eval, Array.getD_eq_getD_getElem?, List.getElem?_toArray, List.getElem?_cons_succ, List.getElem?_cons_zero, Option.getD_some, List.setIfInBounds_toArray, List.set_cons_zero, List.set_cons_succ]
        refine wpJ_take 4 (oi := { dst := some 65, op := Op.move (Operand.tmp 69), type := 34, pos := "extra.go:98", after := #[{ on := 3, ground := Ground.data }], guard := none }) rfl (by kernel_rfl) (by kernel_rfl) (fun _ _ _ h => h) hR (y_move (by rfl) rfl (by rfl)) (fun _ => ?_)
        try simp only [Act.put, Act.eval, Array.getD_eq_getD_getElem?, List.getElem?_toArray, List.getElem?_cons_succ, List.getElem?_cons_zero, Option.getD_some, List.setIfInBounds_toArray, List.set_cons_zero, List.set_cons_succ]
        refine wpJ_take 5 (oi := { dst := some 70, op := Op.extract (Operand.tmp 65) 0, type := 33, pos := "extra.go:98", after := #[{ on := 4, ground := Ground.data }], guard := none }) rfl (by kernel_rfl) (by kernel_rfl) (fun _ _ _ h => h) hR (Or.inl ⟨by rfl, (by intro W hW; clear hW; go_simp; (first | done | with_reducible rfl))⟩) (fun _ => ?_)
        try simp only [Act.put, Act.eval, Array.getD_eq_getD_getElem?, List.getElem?_toArray, List.getElem?_cons_succ, List.getElem?_cons_zero, Option.getD_some, List.setIfInBounds_toArray, List.set_cons_zero, List.set_cons_succ]
        refine wpJ_take 6 (oi := { dst := some 71, op := Op.extract (Operand.tmp 65) 1, type := 27, pos := "extra.go:98", after := #[{ on := 4, ground := Ground.data }, { on := 8, ground := Ground.gcOnly Departure.lateStores }], guard := none }) rfl (by kernel_rfl) (by kernel_rfl) (fun _ _ _ h => h) hR (Or.inl ⟨by rfl, (by intro W hW; clear hW; go_simp; (first | done | with_reducible rfl))⟩) (fun _ => ?_)
        try simp only [Act.put, Act.eval, Array.getD_eq_getD_getElem?, List.getElem?_toArray, List.getElem?_cons_succ, List.getElem?_cons_zero, Option.getD_some, List.setIfInBounds_toArray, List.set_cons_zero, List.set_cons_succ]
        refine wpJ_one 8 (oi := { dst := none, op := Op.store 33 (Operand.tmp 12) (Operand.tmp 70), type := 0, pos := "extra.go:98", after := #[{ on := 7, ground := Ground.data }, { on := 5, ground := Ground.data }, { on := 3, ground := Ground.chain }, { on := 0, ground := Ground.phase }, { on := 1, ground := Ground.phase }, { on := 2, ground := Ground.phase }, { on := 3, ground := Ground.phase }, { on := 4, ground := Ground.phase }, { on := 5, ground := Ground.phase }, { on := 6, ground := Ground.textOnly Departure.lateStores }, { on := 7, ground := Ground.phase }], guard := none }) rfl (by kernel_rfl) ?_
        intro K hK
        refine sw (by rfl) ?_
        refine st_storeAll (T := 33) hS.out rfl (by rfl) (by rfl) (by exact Try.size33) (by repeat (first | exact At.here | apply At.there)) (by rfl) (by rfl) ?_; intro w9 hS9; replace hS := Lib.hid hS9; clear hS9
        refine hK _ _ (fun _ => (by repeat (first | exact rows_nil _ | refine rows_here hS.out (by repeat (first | exact At.here | apply At.there)) ?_))) ?_
        clear hK K
        replace hR := rows_of hR w9 (by repeat (first | exact rows_nil _ | refine rows_here hS.out (by repeat (first | exact At.here | apply At.there)) ?_))
        try simp only [Act.put, Act.eval, Array.getD_eq_getD_getElem?, List.getElem?_toArray, List.getElem?_cons_succ, List.getElem?_cons_zero, Option.getD_some, List.setIfInBounds_toArray, List.set_cons_zero, List.set_cons_succ]
        refine wpJ_take 9 (oi := { dst := some 13, op := Op.assign (Operand.tmp 71), type := 27, pos := "extra.go:98", after := #[{ on := 6, ground := Ground.data }, { on := 8, ground := Ground.chain }, { on := 0, ground := Ground.phase }, { on := 1, ground := Ground.phase }, { on := 2, ground := Ground.phase }, { on := 3, ground := Ground.phase }, { on := 4, ground := Ground.phase }, { on := 5, ground := Ground.phase }, { on := 6, ground := Ground.phase }, { on := 7, ground := Ground.phase }, { on := 8, ground := Ground.phase }], guard := none }) rfl (by kernel_rfl) (by kernel_rfl) (fun _ _ _ h => h) hR (y_assign (by rfl) rfl (by rfl)) (fun _ => ?_)
        try simp only [Act.put, Act.eval, Array.getD_eq_getD_getElem?, List.getElem?_toArray, List.getElem?_cons_succ, List.getElem?_cons_zero, Option.getD_some, List.setIfInBounds_toArray, List.set_cons_zero, List.set_cons_succ]
        refine wpJ_done _ (by kernel_rfl) ?_
        go_wp2_with (first
            | (refine wl_made (bs := []) (t := 33) hS.out ?_; intro wB hS9; replace hS := Lib.hid hS9; clear hS9)
            | (refine wl_made (t := 33) hS.out ?_; intro w9 hS9; replace hS := Lib.hid hS9; clear hS9)
            | (refine wl_loadAll (T := 33) hS.out (by rfl) rfl (by rfl) Try.underlying33 rfl Try.size33 (by repeat (first | exact At.here | apply At.there)) (by rfl) ?_)
            | (refine wl_storeAll (T := 33) hS.out (by rfl) rfl (by rfl) (by rfl) (by exact Try.size33) (by repeat (first | exact At.here | apply At.there)) (by rfl) (by rfl) ?_; intro w9 hS9; replace hS := Lib.hid hS9; clear hS9)
            | (go_at_call 16; have _t := tb4; refine (bytes_ _ ms ma mc (hm.out.new hS.out.isNew) hl3.out).mono ?_; clear _t tb4; rintro e w9 ⟨⟨ta4, tc4, rfl, ho, -⟩, x⟩; replace hS := Lib.hid ((hS.out.call x).own ho (by simp)); clear x ho)
            | (go_at_call 11; have _t := tf4; refine (feed_r _ ez (mbytes ms) (u, y3) none _ 0 _ (Ints.nil _) (rd_bytes (hS.out.get (bytesF (.slice ta4 (mbytes ms).length tc4) (mbytes ms)) (by simp))) hz3.out.1 hz3.out.2 ez_wf hr3.out).mono ?_; clear _t tf4; rintro e w9 ⟨⟨a4, c4, b4, d4, L4, rfl, hI, hL, hq4⟩, x⟩; replace hS := Lib.hid (((hS.out.call x).own hI (by simp)).acts hL (by simp)); clear x hI hL; replace hq4 := Lib.hid hq4)
            | (go_at_call 15; have _t := te2; refine (sameEsc_ _ u a3 a4 c3 c4 (hS.out.get (intsF (.slice a3 u.par.length c3) u.par) (by simp)) (hS.out.get (intsF (.slice a4 u.par.length c4) u.par) (by simp)) hlu).mono ?_; clear _t te2; rintro e w9 ⟨rfl, x⟩; replace hS := Lib.hid (hS.out.call x); clear x)
            | (go_at_call 12; refine (sameActions_t _ L3 L4 y3 b3 b4 d3 d4 (hS.out.get (actsF (.slice b3 L3.length d3) L3) (by simp)) (hS.out.get (actsF (.slice b4 L4.length d4) L4) (by simp)) hq3.out hq4.out hy hs.out).mono ?_; rintro e w9 ⟨rfl, x⟩; replace hS := Lib.hid (hS.out.call x); clear x)
            | (go_at_call 13; refine (awake_ _).mono ?_; rintro e w9 ⟨rfl, x⟩; replace hS := Lib.hid (hS.out.call x); clear x))
        go_ret
        exact ⟨rfl, hS.out.isNew⟩
    · intro K hK
      refine sw (by rfl) ?_
      refine st_made hS.out (by go_simp; (first | done | exact ⟨rfl, rfl⟩)) ?_
      intro w9 hS9; replace hS := Lib.hid hS9; clear hS9
      refine hK _ _ (fun _ => (by repeat (first | exact rows_nil _ | refine rows_here hS.out (by repeat (first | exact At.here | apply At.there)) ?_))) ?_
      clear hK K
      replace hR := rows_of hR w9 (by repeat (first | exact rows_nil _ | refine rows_here hS.out (by repeat (first | exact At.here | apply At.there)) ?_))
      try simp only [Act.put, Act.eval, Array.getD_eq_getD_getElem?, List.getElem?_toArray, List.getElem?_cons_succ, List.getElem?_cons_zero, Option.getD_some, List.setIfInBounds_toArray, List.set_cons_zero, List.set_cons_succ]
      refine wpJ_one 2 (oi := { dst := some 68, op := Op.call { callee := Callee.value (Operand.func 16), args := #[Operand.tmp 67], argTypes := #[22] }, type := 36, pos := "extra.go:98", after := #[{ on := 1, ground := Ground.data }], guard := none }) rfl (by kernel_rfl) ?_
      intro K hK
      refine sw (by rfl) ?_
      refine st_fn Try.func16 (by kernel_rfl) (by kernel_rfl) rfl (by rfl) _ (bytes_ _ ms ma mc (hm.out.new hS.out.isNew) hl3.out) ?_
      rintro e w9 ⟨⟨ta3, tc3, rfl, ho, -⟩, x⟩
      refine ⟨_, rfl, ?_⟩
      replace hS := Lib.hid ((hS.out.call x).own ho (by simp)); clear x ho
      refine hK _ _ (fun _ => (by repeat (first | exact rows_nil _ | refine rows_here hS.out (by repeat (first | exact At.here | apply At.there)) ?_))) ?_
      clear hK K
      replace hR := rows_of hR w9 (by repeat (first | exact rows_nil _ | refine rows_here hS.out (by repeat (first | exact At.here | apply At.there)) ?_))
      try simp only [Act.put, Act.eval, Array.getD_eq_getD_getElem?, List.getElem?_toArray, List.getElem?_cons_succ, List.getElem?_cons_zero, Option.getD_some, List.setIfInBounds_toArray, List.set_cons_zero, List.set_cons_succ]
      refine wpJ_one 3 (oi := { dst := some 69, op := Op.call { callee := Callee.value (Operand.func 11), args := #[Operand.tmp 66, Operand.tmp 68], argTypes := #[33, 36] }, type := 34, pos := "extra.go:98", after := #[{ on := 0, ground := Ground.data }, { on := 2, ground := Ground.data }, { on := 2, ground := Ground.chain }], guard := none }) rfl (by kernel_rfl) ?_
      intro K hK
      refine sw (by rfl) ?_
      refine st_fn Try.func11 (by kernel_rfl) (by kernel_rfl) rfl (by rfl) _ (feed_r _ ez (mbytes ms) (u, y3) a2 _ c2 _ (hS.out.get (own1 3 1 (.slice a2 0 c2) 0 (ints [])) (by simp)) (rd_bytes (hS.out.get (bytesF (.slice ta3 (mbytes ms).length tc3) (mbytes ms)) (by simp))) hz3.out.1 hz3.out.2 ez_wf hr3.out) ?_
      rintro e w9 ⟨⟨a3, c3, b3, d3, L3, rfl, hI, hL, hq3⟩, x⟩
      refine ⟨_, rfl, ?_⟩
      replace hS := Lib.hid (((hS.out.call x).own hI (by simp)).acts hL (by simp)); clear x hI hL; replace hq3 := Lib.hid hq3
      refine hK _ _ (fun _ => (by repeat (first | exact rows_nil _ | refine rows_here hS.out (by repeat (first | exact At.here | apply At.there)) ?_))) ?_
      clear hK K
      replace hR := rows_of hR w9 (by repeat (first | exact rows_nil _ | refine rows_here hS.out (by repeat (first | exact At.here | apply At.there)) ?_))
      try simp only [Act.put, Act.eval, Array.getD_eq_getD_getElem?, List.getElem?_toArray, List.getElem?_cons_succ, List.getElem?_cons_zero, Option.getD_some, List.setIfInBounds_toArray, List.set_cons_zero, List.set_cons_succ]
      refine wpJ_take 4 (oi := { dst := some 65, op := Op.move (Operand.tmp 69), type := 34, pos := "extra.go:98", after := #[{ on := 3, ground := Ground.data }], guard := none }) rfl (by kernel_rfl) (by kernel_rfl) (fun _ _ _ h => h) hR (y_move (by rfl) rfl (by rfl)) (fun _ => ?_)
      try simp only [Act.put, Act.eval, Array.getD_eq_getD_getElem?, List.getElem?_toArray, List.getElem?_cons_succ, List.getElem?_cons_zero, Option.getD_some, List.setIfInBounds_toArray, List.set_cons_zero, List.set_cons_succ]
      refine wpJ_take 5 (oi := { dst := some 70, op := Op.extract (Operand.tmp 65) 0, type := 33, pos := "extra.go:98", after := #[{ on := 4, ground := Ground.data }], guard := none }) rfl (by kernel_rfl) (by kernel_rfl) (fun _ _ _ h => h) hR (Or.inl ⟨by rfl, (by intro W hW; clear hW; go_simp; (first | done | with_reducible rfl))⟩) (fun _ => ?_)
      try simp only [Act.put, Act.eval, Array.getD_eq_getD_getElem?, List.getElem?_toArray, List.getElem?_cons_succ, List.getElem?_cons_zero, Option.getD_some, List.setIfInBounds_toArray, List.set_cons_zero, List.set_cons_succ]
      refine wpJ_take 6 (oi := { dst := some 71, op := Op.extract (Operand.tmp 65) 1, type := 27, pos := "extra.go:98", after := #[{ on := 4, ground := Ground.data }, { on := 8, ground := Ground.gcOnly Departure.lateStores }], guard := none }) rfl (by kernel_rfl) (by kernel_rfl) (fun _ _ _ h => h) hR (Or.inl ⟨by rfl, (by intro W hW; clear hW; go_simp; (first | done | with_reducible rfl))⟩) (fun _ => ?_)
      try simp only [Act.put, Act.eval, Array.getD_eq_getD_getElem?, List.getElem?_toArray, List.getElem?_cons_succ, List.getElem?_cons_zero, Option.getD_some, List.setIfInBounds_toArray, List.set_cons_zero, List.set_cons_succ]
      refine wpJ_one 8 (oi := { dst := none, op := Op.store 33 (Operand.tmp 12) (Operand.tmp 70), type := 0, pos := "extra.go:98", after := #[{ on := 7, ground := Ground.data }, { on := 5, ground := Ground.data }, { on := 3, ground := Ground.chain }, { on := 0, ground := Ground.phase }, { on := 1, ground := Ground.phase }, { on := 2, ground := Ground.phase }, { on := 3, ground := Ground.phase }, { on := 4, ground := Ground.phase }, { on := 5, ground := Ground.phase }, { on := 6, ground := Ground.textOnly Departure.lateStores }, { on := 7, ground := Ground.phase }], guard := none }) rfl (by kernel_rfl) ?_
      intro K hK
      refine sw (by rfl) ?_
      refine st_storeAll (T := 33) hS.out rfl (by rfl) (by rfl) (by exact Try.size33) (by repeat (first | exact At.here | apply At.there)) (by rfl) (by rfl) ?_; intro w9 hS9; replace hS := Lib.hid hS9; clear hS9
      refine hK _ _ (fun _ => (by repeat (first | exact rows_nil _ | refine rows_here hS.out (by repeat (first | exact At.here | apply At.there)) ?_))) ?_
      clear hK K
      replace hR := rows_of hR w9 (by repeat (first | exact rows_nil _ | refine rows_here hS.out (by repeat (first | exact At.here | apply At.there)) ?_))
      try simp only [Act.put, Act.eval, Array.getD_eq_getD_getElem?, List.getElem?_toArray, List.getElem?_cons_succ, List.getElem?_cons_zero, Option.getD_some, List.setIfInBounds_toArray, List.set_cons_zero, List.set_cons_succ]
      refine wpJ_take 9 (oi := { dst := some 13, op := Op.assign (Operand.tmp 71), type := 27, pos := "extra.go:98", after := #[{ on := 6, ground := Ground.data }, { on := 8, ground := Ground.chain }, { on := 0, ground := Ground.phase }, { on := 1, ground := Ground.phase }, { on := 2, ground := Ground.phase }, { on := 3, ground := Ground.phase }, { on := 4, ground := Ground.phase }, { on := 5, ground := Ground.phase }, { on := 6, ground := Ground.phase }, { on := 7, ground := Ground.phase }, { on := 8, ground := Ground.phase }], guard := none }) rfl (by kernel_rfl) (by kernel_rfl) (fun _ _ _ h => h) hR (y_assign (by rfl) rfl (by rfl)) (fun _ => ?_)
      try simp only [Act.put, Act.eval, Array.getD_eq_getD_getElem?, List.getElem?_toArray, List.getElem?_cons_succ, List.getElem?_cons_zero, Option.getD_some, List.setIfInBounds_toArray, List.set_cons_zero, List.set_cons_succ]
      refine wpJ_done _ (by kernel_rfl) ?_
      go_wp2_with (first
          | (refine wl_made (bs := []) (t := 33) hS.out ?_; intro wB hS9; replace hS := Lib.hid hS9; clear hS9)
          | (refine wl_made (t := 33) hS.out ?_; intro w9 hS9; replace hS := Lib.hid hS9; clear hS9)
          | (refine wl_loadAll (T := 33) hS.out (by rfl) rfl (by rfl) Try.underlying33 rfl Try.size33 (by repeat (first | exact At.here | apply At.there)) (by rfl) ?_)
          | (refine wl_storeAll (T := 33) hS.out (by rfl) rfl (by rfl) (by rfl) (by exact Try.size33) (by repeat (first | exact At.here | apply At.there)) (by rfl) (by rfl) ?_; intro w9 hS9; replace hS := Lib.hid hS9; clear hS9)
          | (go_at_call 16; have _t := tb4; refine (bytes_ _ ms ma mc (hm.out.new hS.out.isNew) hl3.out).mono ?_; clear _t tb4; rintro e w9 ⟨⟨ta4, tc4, rfl, ho, -⟩, x⟩; replace hS := Lib.hid ((hS.out.call x).own ho (by simp)); clear x ho)
          | (go_at_call 11; have _t := tf4; refine (feed_r _ ez (mbytes ms) (u, y3) none _ 0 _ (Ints.nil _) (rd_bytes (hS.out.get (bytesF (.slice ta4 (mbytes ms).length tc4) (mbytes ms)) (by simp))) hz3.out.1 hz3.out.2 ez_wf hr3.out).mono ?_; clear _t tf4; rintro e w9 ⟨⟨a4, c4, b4, d4, L4, rfl, hI, hL, hq4⟩, x⟩; replace hS := Lib.hid (((hS.out.call x).own hI (by simp)).acts hL (by simp)); clear x hI hL; replace hq4 := Lib.hid hq4)
          | (go_at_call 15; have _t := te2; refine (sameEsc_ _ u a3 a4 c3 c4 (hS.out.get (intsF (.slice a3 u.par.length c3) u.par) (by simp)) (hS.out.get (intsF (.slice a4 u.par.length c4) u.par) (by simp)) hlu).mono ?_; clear _t te2; rintro e w9 ⟨rfl, x⟩; replace hS := Lib.hid (hS.out.call x); clear x)
          | (go_at_call 12; refine (sameActions_t _ L3 L4 y3 b3 b4 d3 d4 (hS.out.get (actsF (.slice b3 L3.length d3) L3) (by simp)) (hS.out.get (actsF (.slice b4 L4.length d4) L4) (by simp)) hq3.out hq4.out hy hs.out).mono ?_; rintro e w9 ⟨rfl, x⟩; replace hS := Lib.hid (hS.out.call x); clear x)
          | (go_at_call 13; refine (awake_ _).mono ?_; rintro e w9 ⟨rfl, x⟩; replace hS := Lib.hid (hS.out.call x); clear x))
      go_ret
      exact ⟨rfl, hS.out.isNew⟩
end Go.Proofs.Ytbcpbndhkainnaa
