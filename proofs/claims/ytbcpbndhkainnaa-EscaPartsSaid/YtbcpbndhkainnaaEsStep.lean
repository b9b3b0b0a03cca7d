/- A byte. -/
import Derived.Test.YtbcpbndhkainnaaEsGround
import Derived.Outline
namespace Go.Proofs.Ytbcpbndhkainnaa
open Go.RowKit
set_option linter.unusedSimpArgs false
set_option linter.unusedVariables false
/-- What every escape keeps to. -/
def Wu (u : Ut) : Prop := 0 ≤ u.gt ∧ (u.nd ≤ 0 ∧ u.gt ≤ 2097152 ∨ u.nd = 1 ∧ u.gt ≤ 32767 ∨ u.nd = 2 ∧ u.gt ≤ 511 ∨ u.nd = 3 ∧ u.gt ≤ 7)
def Wf (s : Es) : Prop := Wu s.ut ∧ s.par.length ≤ 16 ∧ -1 ≤ s.nu ∧ s.nu ≤ 65535
theorem wu_begin (b : Int) (hb : 0 ≤ b) (hb2 : b ≤ 255) : Wu (mbegin b).1 := by
  unfold mbegin
  repeat' split
  all_goals (unfold Wu; simp; try omega)
theorem wu_utf {u : Ut} (h : Wu u) (b : Int) (hb : 0 ≤ b) (hb2 : b ≤ 255) : Wu (mutf u b).1 := by
  have hbg := wu_begin b hb hb2
  unfold mutf
  split
  · exact hbg
  · split
    · exact hbg
    · split
      · unfold Wu at h ⊢
        simp only
        omega
      · split
        · unfold Wu; simp
        · unfold Wu; simp
theorem wf_go {s : Es} (h : Wf s) (m : Int) : Wf (s.go m) := ⟨h.1, by simp [Es.go], by simp [Es.go], by simp [Es.go]⟩
theorem wf_sign {s : Es} (h : Wf s) (r : Int) : Wf (msign s r).1 := by
  unfold msign
  repeat' split
  · exact wf_go h 1
  · exact h
  · exact h
  · exact h
theorem wf_signs (l : List Int) : ∀ (s : Es) (out : List Ac), Wf s → Wf (msigns l s out).1 := by
  induction l with
  | nil => intro s out h; exact h
  | cons r l ih => intro s out h; exact ih _ _ (wf_sign h r)
theorem signs_len (l : List Int) : ∀ (s : Es) (out : List Ac), (msigns l s out).2.length ≤ out.length + l.length := by
  induction l with
  | nil => intro s out; simp [msigns]
  | cons r l ih =>
    intro s out
    have h1 := ih (msign s r).1 (out ++ (msign s r).2)
    have h2 := msign_nu s r
    simp only [msigns, List.length_append, List.length_cons] at h1 ⊢
    omega
theorem wf_leave {s : Es} (h : Wf s) (b : Int) : Wf (mleave s b).1 := by
  unfold mleave
  repeat' split
  · exact wf_go h 1
  · exact wf_go h 0
  · exact h
theorem told_len {s : Es} (h : Wf s) : (mtold s).length ≤ 16 := by
  have := h.2.1
  unfold mtold
  split
  · exact this
  · simp; omega
theorem control_len (b : Int) : (mcontrol b).length ≤ 2 := by
  unfold mcontrol
  split <;> simp
theorem wf_step {s : Es} (h : Wf s) (b : Int) (hb : 0 ≤ b) (hb2 : b ≤ 255) : Wf (mstep s b).1 ∧ (mstep s b).2.length ≤ 2 := by
  have hc := control_len b
  have hgo := fun m => wf_go h m
  have hlv := wf_leave h b
  have htl := told_len h
  unfold mstep
  split
  · unfold mescape
    repeat' split
    all_goals first | exact ⟨hgo _, by simp⟩ | exact ⟨hlv, by simp⟩ | exact ⟨h, hc⟩ | exact ⟨⟨h.1, by simp, by simp, by simp⟩, by simp⟩
  · split
    · unfold mcsi
      split
      · exact ⟨hlv, by simp⟩
      · split
        · rename_i hd
          simp [mwithin] at hd
          have := h.2.2
          exact ⟨⟨h.1, h.2.1, by simp; omega, by simp; omega⟩, by simp⟩
        · split
          · exact ⟨⟨h.1, htl, by simp, by simp⟩, by simp⟩
          · split
            · exact ⟨⟨h.1, h.2.1, h.2.2⟩, by simp⟩
            · split
              · exact ⟨⟨h.1, h.2.1, h.2.2⟩, by simp⟩
              · split
                · unfold mlast
                  refine ⟨hgo 0, ?_⟩
                  simp only
                  split <;> simp
                · split
                  · exact ⟨h, hc⟩
                  · exact ⟨h, by simp⟩
    · split
      · refine ⟨?_, by simp⟩
        unfold mtext
        repeat' split
        all_goals first | exact hgo _ | exact h
      · split
        · refine ⟨?_, by simp⟩
          unfold mskip
          repeat' split
          all_goals first | exact hlv | exact hgo _ | exact h
        · split
          · refine ⟨?_, by simp⟩
            unfold mend
            repeat' split
            all_goals first | exact hgo _ | exact h
          · unfold mground
            have hu := wu_utf h.1 b hb hb2
            have hl := mutf_len s.ut b
            have hs : Wf (s.setUt (mutf s.ut b).1) := ⟨hu, h.2.1, h.2.2⟩
            refine ⟨wf_signs _ _ _ hs, ?_⟩
            have := signs_len (mutf s.ut b).2 (s.setUt (mutf s.ut b).1) []
            simp at this
            omega
set_option maxHeartbeats 4000000 in
theorem step_ (w : World) (s : Es) (b : Int) (a : Option Addr) (c : Nat) (hp : Ints w (.slice a s.par.length c) s.par) (hb : 0 ≤ b) (hb2 : b ≤ 255) (hw : Wf s) :
    Calls Try.prog 18 #[esV s (.slice a s.par.length c), .int .u8 b] w fun e w' => REA w' e (mstep s b) ∧ New w w' := by
  have hl := hw.2.1
  have hn := hw.2.2.1
  have hn2 := hw.2.2.2
  have hg : 0 ≤ s.gt := hw.1.1
  have hg2 : s.gt ≤ 2097152 := by have := hw.1; unfold Wu at this; simp only [Es.ut] at this; omega
  have hnd : s.nd ≤ 3 := by have := hw.1; unfold Wu at this; simp only [Es.ut] at this; omega
  replace hw := Lib.hid hw
  have hS : St (fun _ => False) w w [] [intsF (.slice a s.par.length c) s.par] := (St.init w).own hp (by simp)
  replace hS := Lib.hid hS
  clear hp
  by_cases m1 : s.m = 1
  · have e : mstep s b = mescape s b := by simp [mstep, m1]
    rw [e]; clear e
    have g1 : (s.m == 1) = true := beq_iff_eq.2 m1
    clear m1
    go_enter Try.func18, Try.ntmps18
    go_wp2_with (first
        | (refine wl_made (bs := []) hS.out ?_; intro wB hS9; replace hS := Lib.hid hS9; clear hS9)
        | (refine wl_made hS.out ?_; intro w9 hS9; replace hS := Lib.hid hS9; clear hS9)
        | (refine wl_load1 (T := 3) hS.out (by rfl) rfl (by rfl) Try.underlying3 rfl (by repeat (first | exact At.here | apply At.there)) (by rfl) ?_)
        | (refine wl_load1 (T := 22) hS.out (by rfl) rfl (by rfl) Try.underlying22 rfl (by repeat (first | exact At.here | apply At.there)) (by rfl) ?_)
        | (refine wl_loadAll (T := 33) hS.out (by rfl) rfl (by rfl) Try.underlying33 rfl Try.size33 (by repeat (first | exact At.here | apply At.there)) (by rfl) ?_)
        | (refine wl_storeAll (T := 33) hS.out (by rfl) rfl (by rfl) (by rfl) (by exact Try.size33) (by repeat (first | exact At.here | apply At.there)) (by rfl) (by rfl) ?_; intro w9 hS9; replace hS := Lib.hid hS9; clear hS9)
        | (refine wl_store1 (v := .slice _ _ _) (T := 22) hS.out (by rfl) rfl (by rfl) (by rfl) Try.size22 (by repeat (first | exact At.here | apply At.there)) (by rfl) (by rfl) (by rfl) ?_; intro w9 hS9; simp only [List.set_cons_zero, List.set_cons_succ] at hS9; replace hS := Lib.hid hS9; clear hS9)
        | (go_at_call 20; refine (escape_ _ s b a c (hS.out.get (intsF (.slice a s.par.length c) s.par) (by simp)) hb hb2).mono ?_; rintro e w9 ⟨⟨a2, c2, b2, d2, L, rfl, hI, hL, hacs⟩, x⟩; replace hS := Lib.hid (((hS.out.call x).own hI (by simp)).acts hL (by simp)); clear x hI hL; replace hacs := Lib.hid hacs))
    refine bodyPost_ret (res_cell_tmp hS.out Try.results18 Try.underlying33 rfl Try.size33 (by rfl) (by repeat (first | exact At.here | apply At.there)) (by rfl) (by rfl)) rfl ?_
    exact ⟨⟨a2, c2, b2, d2, L, rfl, hS.out.get (intsF (.slice a2 (mescape s b).1.par.length c2) (mescape s b).1.par) (by simp), hS.out.get (actsF (.slice b2 L.length d2) L) (by simp), hacs.out⟩, hS.out.isNew⟩
  · skip
    by_cases m2 : s.m = 2
    · have e : mstep s b = mcsi s b := by simp [mstep, m2]
      rw [e]; clear e
      have g2 : (s.m == 2) = true := beq_iff_eq.2 m2
      have g1 : (s.m == 1) = false := by rw [m2]; rfl
      clear m2 m1
      go_enter Try.func18, Try.ntmps18
      go_wp2_with (first
          | (refine wl_made (bs := []) hS.out ?_; intro wB hS9; replace hS := Lib.hid hS9; clear hS9)
          | (refine wl_made hS.out ?_; intro w9 hS9; replace hS := Lib.hid hS9; clear hS9)
          | (refine wl_load1 (T := 3) hS.out (by rfl) rfl (by rfl) Try.underlying3 rfl (by repeat (first | exact At.here | apply At.there)) (by rfl) ?_)
          | (refine wl_load1 (T := 22) hS.out (by rfl) rfl (by rfl) Try.underlying22 rfl (by repeat (first | exact At.here | apply At.there)) (by rfl) ?_)
          | (refine wl_loadAll (T := 33) hS.out (by rfl) rfl (by rfl) Try.underlying33 rfl Try.size33 (by repeat (first | exact At.here | apply At.there)) (by rfl) ?_)
          | (refine wl_storeAll (T := 33) hS.out (by rfl) rfl (by rfl) (by rfl) (by exact Try.size33) (by repeat (first | exact At.here | apply At.there)) (by rfl) (by rfl) ?_; intro w9 hS9; replace hS := Lib.hid hS9; clear hS9)
          | (refine wl_store1 (v := .slice _ _ _) (T := 22) hS.out (by rfl) rfl (by rfl) (by rfl) Try.size22 (by repeat (first | exact At.here | apply At.there)) (by rfl) (by rfl) (by rfl) ?_; intro w9 hS9; simp only [List.set_cons_zero, List.set_cons_succ] at hS9; replace hS := Lib.hid hS9; clear hS9)
          | (go_at_call 21; refine (csi_ _ s b a c (hS.out.get (intsF (.slice a s.par.length c) s.par) (by simp)) hb hb2 hl hn hn2).mono ?_; rintro e w9 ⟨⟨a2, c2, b2, d2, L, rfl, hI, hL, hacs⟩, x⟩; replace hS := Lib.hid (((hS.out.call x).own hI (by simp)).acts hL (by simp)); clear x hI hL; replace hacs := Lib.hid hacs))
      refine bodyPost_ret (res_cell_tmp hS.out Try.results18 Try.underlying33 rfl Try.size33 (by rfl) (by repeat (first | exact At.here | apply At.there)) (by rfl) (by rfl)) rfl ?_
      exact ⟨⟨a2, c2, b2, d2, L, rfl, hS.out.get (intsF (.slice a2 (mcsi s b).1.par.length c2) (mcsi s b).1.par) (by simp), hS.out.get (actsF (.slice b2 L.length d2) L) (by simp), hacs.out⟩, hS.out.isNew⟩
    · skip
      by_cases m3 : s.m = 3
      · have e : mstep s b = (mtext s b, []) := by simp [mstep, m3]
        rw [e]; clear e
        have g3 : (s.m == 3) = true := beq_iff_eq.2 m3
        have g1 : (s.m == 1) = false := by rw [m3]; rfl
        have g2 : (s.m == 2) = false := by rw [m3]; rfl
        clear m3 m1 m2
        go_enter Try.func18, Try.ntmps18
        go_wp2_with (first
            | (refine wl_made (bs := []) hS.out ?_; intro wB hS9; replace hS := Lib.hid hS9; clear hS9)
            | (refine wl_made hS.out ?_; intro w9 hS9; replace hS := Lib.hid hS9; clear hS9)
            | (refine wl_load1 (T := 3) hS.out (by rfl) rfl (by rfl) Try.underlying3 rfl (by repeat (first | exact At.here | apply At.there)) (by rfl) ?_)
            | (refine wl_load1 (T := 22) hS.out (by rfl) rfl (by rfl) Try.underlying22 rfl (by repeat (first | exact At.here | apply At.there)) (by rfl) ?_)
            | (refine wl_loadAll (T := 33) hS.out (by rfl) rfl (by rfl) Try.underlying33 rfl Try.size33 (by repeat (first | exact At.here | apply At.there)) (by rfl) ?_)
            | (refine wl_storeAll (T := 33) hS.out (by rfl) rfl (by rfl) (by rfl) (by exact Try.size33) (by repeat (first | exact At.here | apply At.there)) (by rfl) (by rfl) ?_; intro w9 hS9; replace hS := Lib.hid hS9; clear hS9)
            | (refine wl_store1 (v := .slice _ _ _) (T := 22) hS.out (by rfl) rfl (by rfl) (by rfl) Try.size22 (by repeat (first | exact At.here | apply At.there)) (by rfl) (by rfl) (by rfl) ?_; intro w9 hS9; simp only [List.set_cons_zero, List.set_cons_succ] at hS9; replace hS := Lib.hid hS9; clear hS9)
            | (go_at_call 22; refine (text_ _ s b a c (hS.out.get (intsF (.slice a s.par.length c) s.par) (by simp))).mono ?_; rintro e w9 ⟨⟨a2, c2, rfl, hI⟩, x⟩; replace hS := Lib.hid ((hS.out.call x).own hI (by simp)); clear x hI))
        refine bodyPost_ret (res_cell_tmp hS.out Try.results18 Try.underlying33 rfl Try.size33 (by rfl) (by repeat (first | exact At.here | apply At.there)) (by rfl) (by rfl)) rfl ?_
        exact ⟨⟨a2, c2, none, 0, [], rfl, hS.out.get (intsF (.slice a2 (mtext s b).par.length c2) (mtext s b).par) (by simp), Acts.nil _, rfl⟩, hS.out.isNew⟩
      · skip
        by_cases m4 : s.m = 4
        · have e : mstep s b = (mskip s b, []) := by simp [mstep, m4]
          rw [e]; clear e
          have g4 : (s.m == 4) = true := beq_iff_eq.2 m4
          have g1 : (s.m == 1) = false := by rw [m4]; rfl
          have g2 : (s.m == 2) = false := by rw [m4]; rfl
          have g3 : (s.m == 3) = false := by rw [m4]; rfl
          clear m4 m1 m2 m3
          go_enter Try.func18, Try.ntmps18
          go_wp2_with (first
              | (refine wl_made (bs := []) hS.out ?_; intro wB hS9; replace hS := Lib.hid hS9; clear hS9)
              | (refine wl_made hS.out ?_; intro w9 hS9; replace hS := Lib.hid hS9; clear hS9)
              | (refine wl_load1 (T := 3) hS.out (by rfl) rfl (by rfl) Try.underlying3 rfl (by repeat (first | exact At.here | apply At.there)) (by rfl) ?_)
              | (refine wl_load1 (T := 22) hS.out (by rfl) rfl (by rfl) Try.underlying22 rfl (by repeat (first | exact At.here | apply At.there)) (by rfl) ?_)
              | (refine wl_loadAll (T := 33) hS.out (by rfl) rfl (by rfl) Try.underlying33 rfl Try.size33 (by repeat (first | exact At.here | apply At.there)) (by rfl) ?_)
              | (refine wl_storeAll (T := 33) hS.out (by rfl) rfl (by rfl) (by rfl) (by exact Try.size33) (by repeat (first | exact At.here | apply At.there)) (by rfl) (by rfl) ?_; intro w9 hS9; replace hS := Lib.hid hS9; clear hS9)
              | (refine wl_store1 (v := .slice _ _ _) (T := 22) hS.out (by rfl) rfl (by rfl) (by rfl) Try.size22 (by repeat (first | exact At.here | apply At.there)) (by rfl) (by rfl) (by rfl) ?_; intro w9 hS9; simp only [List.set_cons_zero, List.set_cons_succ] at hS9; replace hS := Lib.hid hS9; clear hS9)
              | (go_at_call 23; refine (skip_ _ s b a c (hS.out.get (intsF (.slice a s.par.length c) s.par) (by simp))).mono ?_; rintro e w9 ⟨⟨a2, c2, rfl, hI⟩, x⟩; replace hS := Lib.hid ((hS.out.call x).own hI (by simp)); clear x hI))
          refine bodyPost_ret (res_cell_tmp hS.out Try.results18 Try.underlying33 rfl Try.size33 (by rfl) (by repeat (first | exact At.here | apply At.there)) (by rfl) (by rfl)) rfl ?_
          exact ⟨⟨a2, c2, none, 0, [], rfl, hS.out.get (intsF (.slice a2 (mskip s b).par.length c2) (mskip s b).par) (by simp), Acts.nil _, rfl⟩, hS.out.isNew⟩
        · skip
          by_cases m5 : s.m = 5
          · have e : mstep s b = (mend s b, []) := by simp [mstep, m5]
            rw [e]; clear e
            have g5 : (s.m == 5) = true := beq_iff_eq.2 m5
            have g1 : (s.m == 1) = false := by rw [m5]; rfl
            have g2 : (s.m == 2) = false := by rw [m5]; rfl
            have g3 : (s.m == 3) = false := by rw [m5]; rfl
            have g4 : (s.m == 4) = false := by rw [m5]; rfl
            clear m5 m1 m2 m3 m4
            go_enter Try.func18, Try.ntmps18
            go_wp2_with (first
                | (refine wl_made (bs := []) hS.out ?_; intro wB hS9; replace hS := Lib.hid hS9; clear hS9)
                | (refine wl_made hS.out ?_; intro w9 hS9; replace hS := Lib.hid hS9; clear hS9)
                | (refine wl_load1 (T := 3) hS.out (by rfl) rfl (by rfl) Try.underlying3 rfl (by repeat (first | exact At.here | apply At.there)) (by rfl) ?_)
                | (refine wl_load1 (T := 22) hS.out (by rfl) rfl (by rfl) Try.underlying22 rfl (by repeat (first | exact At.here | apply At.there)) (by rfl) ?_)
                | (refine wl_loadAll (T := 33) hS.out (by rfl) rfl (by rfl) Try.underlying33 rfl Try.size33 (by repeat (first | exact At.here | apply At.there)) (by rfl) ?_)
                | (refine wl_storeAll (T := 33) hS.out (by rfl) rfl (by rfl) (by rfl) (by exact Try.size33) (by repeat (first | exact At.here | apply At.there)) (by rfl) (by rfl) ?_; intro w9 hS9; replace hS := Lib.hid hS9; clear hS9)
                | (refine wl_store1 (v := .slice _ _ _) (T := 22) hS.out (by rfl) rfl (by rfl) (by rfl) Try.size22 (by repeat (first | exact At.here | apply At.there)) (by rfl) (by rfl) (by rfl) ?_; intro w9 hS9; simp only [List.set_cons_zero, List.set_cons_succ] at hS9; replace hS := Lib.hid hS9; clear hS9)
                | (go_at_call 24; refine (end_ _ s b a c (hS.out.get (intsF (.slice a s.par.length c) s.par) (by simp))).mono ?_; rintro e w9 ⟨⟨a2, c2, rfl, hI⟩, x⟩; replace hS := Lib.hid ((hS.out.call x).own hI (by simp)); clear x hI))
            refine bodyPost_ret (res_cell_tmp hS.out Try.results18 Try.underlying33 rfl Try.size33 (by rfl) (by repeat (first | exact At.here | apply At.there)) (by rfl) (by rfl)) rfl ?_
            exact ⟨⟨a2, c2, none, 0, [], rfl, hS.out.get (intsF (.slice a2 (mend s b).par.length c2) (mend s b).par) (by simp), Acts.nil _, rfl⟩, hS.out.isNew⟩
          · skip
            have e : mstep s b = mground s b := by simp [mstep, m1, m2, m3, m4, m5]
            rw [e]; clear e
            have g1 : (s.m == 1) = false := beq_eq_false_iff_ne.2 m1
            have g2 : (s.m == 2) = false := beq_eq_false_iff_ne.2 m2
            have g3 : (s.m == 3) = false := beq_eq_false_iff_ne.2 m3
            have g4 : (s.m == 4) = false := beq_eq_false_iff_ne.2 m4
            have g5 : (s.m == 5) = false := beq_eq_false_iff_ne.2 m5
            clear m1 m2 m3 m4 m5
            go_enter Try.func18, Try.ntmps18
            go_wp2_with (first
                | (refine wl_made (bs := []) hS.out ?_; intro wB hS9; replace hS := Lib.hid hS9; clear hS9)
                | (refine wl_made hS.out ?_; intro w9 hS9; replace hS := Lib.hid hS9; clear hS9)
                | (refine wl_load1 (T := 3) hS.out (by rfl) rfl (by rfl) Try.underlying3 rfl (by repeat (first | exact At.here | apply At.there)) (by rfl) ?_)
                | (refine wl_load1 (T := 22) hS.out (by rfl) rfl (by rfl) Try.underlying22 rfl (by repeat (first | exact At.here | apply At.there)) (by rfl) ?_)
                | (refine wl_loadAll (T := 33) hS.out (by rfl) rfl (by rfl) Try.underlying33 rfl Try.size33 (by repeat (first | exact At.here | apply At.there)) (by rfl) ?_)
                | (refine wl_storeAll (T := 33) hS.out (by rfl) rfl (by rfl) (by rfl) (by exact Try.size33) (by repeat (first | exact At.here | apply At.there)) (by rfl) (by rfl) ?_; intro w9 hS9; replace hS := Lib.hid hS9; clear hS9)
                | (refine wl_store1 (v := .slice _ _ _) (T := 22) hS.out (by rfl) rfl (by rfl) (by rfl) Try.size22 (by repeat (first | exact At.here | apply At.there)) (by rfl) (by rfl) (by rfl) ?_; intro w9 hS9; simp only [List.set_cons_zero, List.set_cons_succ] at hS9; replace hS := Lib.hid hS9; clear hS9)
                | (go_at_call 25; refine (ground_ _ s b a c (hS.out.get (intsF (.slice a s.par.length c) s.par) (by simp)) hb hb2 hg hg2 hnd).mono ?_; rintro e w9 ⟨⟨a2, c2, b2, d2, L, rfl, hI, hL, hacs⟩, x⟩; replace hS := Lib.hid (((hS.out.call x).own hI (by simp)).acts hL (by simp)); clear x hI hL; replace hacs := Lib.hid hacs))
            refine bodyPost_ret (res_cell_tmp hS.out Try.results18 Try.underlying33 rfl Try.size33 (by rfl) (by repeat (first | exact At.here | apply At.there)) (by rfl) (by rfl)) rfl ?_
            exact ⟨⟨a2, c2, b2, d2, L, rfl, hS.out.get (intsF (.slice a2 (mground s b).1.par.length c2) (mground s b).1.par) (by simp), hS.out.get (actsF (.slice b2 L.length d2) L) (by simp), hacs.out⟩, hS.out.isNew⟩
end Go.Proofs.Ytbcpbndhkainnaa
