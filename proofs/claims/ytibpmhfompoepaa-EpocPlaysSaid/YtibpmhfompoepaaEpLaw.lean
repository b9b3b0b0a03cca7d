/- EpocPlays: the walk. -/
import Derived.Test.YtibpmhfompoepaaEpPair
import Derived.Test.YtibpmhfompoepaaBits
import Derived.Deep.CutBlock
import Derived.Test.YtibpmhfompoepaaJ
namespace Go.Proofs.Ytibpmhfompoepaa
open Go.RowKit
set_option linter.unusedSimpArgs false
set_option linter.unusedVariables false
attribute [local go_sem] i64_and1' i64_and3' i64_and7' i64_and15'
/-- A slice of whole numbers that came in. -/
def RdI (w : World) (a : Option Addr) (len : Nat) (zs : List Int) : Prop :=
  len ≤ maxLen ∧ (0 < len → ∃ b off, a = some ⟨b, off, none⟩ ∧ b < w.heap.size ∧ ∀ i, i < len → w.cell? ⟨b, off + i, none⟩ = some (.int .i64 (zs.getD i 0)) ∧ -9223372036854775808 ≤ zs.getD i 0 ∧ zs.getD i 0 ≤ 9223372036854775807)
theorem pin_cases (pins : List Int) (t : Int) (hp : ∀ x ∈ pins, 0 ≤ x) :
    (∃ i : Nat, t = i ∧ i < pins.length ∧ pins.getD i 0 = 0 ∧ pinOk pins (i : Int) = true) ∨ (pinOk pins t = false ∧ ((t < 0 ∨ (pins.length : Int) ≤ t) ∨ ∃ i : Nat, t = i ∧ i < pins.length ∧ 1 ≤ pins.getD i 0)) := by
  by_cases h0 : t < 0
  · exact Or.inr ⟨by simp [pinOk, inP]; omega, Or.inl (Or.inl h0)⟩
  by_cases h1 : (pins.length : Int) ≤ t
  · exact Or.inr ⟨by simp [pinOk, inP]; omega, Or.inl (Or.inr h1)⟩
  obtain ⟨i, rfl⟩ := Int.eq_ofNat_of_zero_le (by omega : 0 ≤ t)
  have hi : i < pins.length := by omega
  have hx := hp (pins.getD i 0) (by simp [List.getD_eq_getElem?_getD, hi])
  have hin : inP pins (i : Int) = true := by simp [inP, hi]
  by_cases hz : pins.getD i 0 = 0
  · exact Or.inl ⟨i, rfl, hi, hz, by unfold pinOk pinnedAt; rw [hin, if_neg (by simp only [Int.toNat_natCast]; exact fun h => h.2 hz)]; rfl⟩
  · exact Or.inr ⟨by unfold pinOk pinnedAt; rw [hin, if_pos ⟨rfl, by simpa using hz⟩]; rfl, Or.inr ⟨i, rfl, hi, by omega⟩⟩
theorem unpin_cases (pins : List Int) (t : Int) (hp : ∀ x ∈ pins, 0 ≤ x) :
    (∃ i : Nat, t = i ∧ i < pins.length ∧ 1 ≤ pins.getD i 0 ∧ pinnedAt pins (i : Int) = (pins.getD i 0 - 1, true)) ∨ (pinnedAt pins t = (0, false) ∧ ((t < 0 ∨ (pins.length : Int) ≤ t) ∨ ∃ i : Nat, t = i ∧ i < pins.length ∧ pins.getD i 0 = 0)) := by
  by_cases h0 : t < 0
  · exact Or.inr ⟨by unfold pinnedAt; rw [if_neg (by simp [inP]; omega)], Or.inl (Or.inl h0)⟩
  by_cases h1 : (pins.length : Int) ≤ t
  · exact Or.inr ⟨by unfold pinnedAt; rw [if_neg (by simp [inP]; omega)], Or.inl (Or.inr h1)⟩
  obtain ⟨i, rfl⟩ := Int.eq_ofNat_of_zero_le (by omega : 0 ≤ t)
  have hi : i < pins.length := by omega
  have hx := hp (pins.getD i 0) (by simp [List.getD_eq_getElem?_getD, hi])
  have hin : inP pins (i : Int) = true := by simp [inP, hi]
  by_cases hz : pins.getD i 0 = 0
  · exact Or.inr ⟨by unfold pinnedAt; rw [if_neg (by simp only [Int.toNat_natCast]; exact fun h => h.2 hz)], Or.inr ⟨i, rfl, hi, hz⟩⟩
  · exact Or.inl ⟨i, rfl, hi, by omega, by unfold pinnedAt; rw [if_pos ⟨hin, by simpa using hz⟩]; simp⟩
theorem out_pin {pins : List Int} {t : Int} (h : (t < 0 ∨ (pins.length : Int) ≤ t) ∨ ∃ i : Nat, t = i ∧ i < pins.length ∧ 1 ≤ pins.getD i 0) :
    (t < 0 ∨ ((pins.map (· - 1)).length : Int) ≤ t) ∨ ∃ i : Nat, t = i ∧ i < (pins.map (· - 1)).length ∧ 0 ≤ (pins.map (· - 1)).getD i 0 := by
  rcases h with h | ⟨i, e, hi, hz⟩
  · exact Or.inl (by simpa using h)
  · exact Or.inr ⟨i, e, by simpa using hi, by rw [map_getD _ _ hi]; omega⟩
theorem out_unpin {pins : List Int} {t : Int} (h : (t < 0 ∨ (pins.length : Int) ≤ t) ∨ ∃ i : Nat, t = i ∧ i < pins.length ∧ pins.getD i 0 = 0) :
    (t < 0 ∨ ((pins.map (· - 1)).length : Int) ≤ t) ∨ ∃ i : Nat, t = i ∧ i < (pins.map (· - 1)).length ∧ (pins.map (· - 1)).getD i 0 < 0 := by
  rcases h with h | ⟨i, e, hi, hz⟩
  · exact Or.inl (by simpa using h)
  · exact Or.inr ⟨i, e, by simpa using hi, by rw [map_getD _ _ hi]; omega⟩
section
variable {w0 w w' : World} {g1 g2 : Nat} {n : Int} {pins : List Int} {l : List (Int × Int)} {k : Nat}
theorem inv_same (h : Inv w0 w g1 g2 n pins l k) (P : Pair w0 w' g1 g2 n pins l n (pins.map (· - 1)) l) : Inv w0 w' g1 g2 n pins l (k + 1) :=
  ⟨P, h.n0, by have := h.n1; omega, by have := h.ll; omega, h.pl, fun x hx => by have := h.pb x hx; omega⟩
theorem inv_ext (h : Inv w0 w g1 g2 n pins l k) (x : Ext (fun _ => False) w w') : Inv w0 w' g1 g2 n pins l k :=
  ⟨h.pair.ext x, h.n0, h.n1, h.ll, h.pl, h.pb⟩
theorem mem_set {xs : List Int} {i : Nat} {y x : Int} (h : x ∈ xs.set i y) : x ∈ xs ∨ x = y := by
  rcases List.mem_or_eq_of_mem_set h with h | h
  · exact Or.inl h
  · exact Or.inr h
theorem inv_pin {i : Nat} (h : Inv w0 w g1 g2 n pins l k) (P : Pair w0 w' g1 g2 n (pins.set i (n + 1)) l n ((pins.map (· - 1)).set i n) l) : Inv w0 w' g1 g2 n (pins.set i (n + 1)) l (k + 1) := by
  have e : (pins.map (· - 1)).set i n = (pins.set i (n + 1)).map (· - 1) := by rw [List.map_set]; simp
  rw [e] at P
  refine ⟨P, h.n0, by have := h.n1; omega, by have := h.ll; omega, by rw [List.length_set]; exact h.pl, fun x hx => ?_⟩
  rcases mem_set hx with hx | rfl
  · have := h.pb x hx; omega
  · have := h.n0; have := h.n1; omega
theorem inv_unpin {i : Nat} (h : Inv w0 w g1 g2 n pins l k) (P : Pair w0 w' g1 g2 n (pins.set i 0) l n ((pins.map (· - 1)).set i (-1)) l) : Inv w0 w' g1 g2 n (pins.set i 0) l (k + 1) := by
  have e : (pins.map (· - 1)).set i (-1) = (pins.set i 0).map (· - 1) := by rw [List.map_set]; simp
  rw [e] at P
  refine ⟨P, h.n0, by have := h.n1; omega, by have := h.ll; omega, by rw [List.length_set]; exact h.pl, fun x hx => ?_⟩
  rcases mem_set hx with hx | rfl
  · have := h.pb x hx; omega
  · omega
theorem inv_retire {x : Int} (h : Inv w0 w g1 g2 n pins l k) (P : Pair w0 w' g1 g2 n pins (l ++ [(x, n)]) n (pins.map (· - 1)) (l ++ [(x, n)])) : Inv w0 w' g1 g2 n pins (l ++ [(x, n)]) (k + 1) :=
  ⟨P, h.n0, by have := h.n1; omega, by have := h.ll; simp; omega, h.pl, fun x hx => by have := h.pb x hx; omega⟩
theorem inv_adv (h : Inv w0 w g1 g2 n pins l k) (P : Pair w0 w' g1 g2 (n + 1) pins (stay (n + 1) l) (n + 1) (pins.map (· - 1)) (stay (n + 1) l)) : Inv w0 w' g1 g2 (n + 1) pins (stay (n + 1) l) (k + 1) :=
  ⟨P, by have := h.n0; omega, by have := h.n1; omega, by have := h.ll; have := stay_le (n + 1) l; omega, h.pl, fun x hx => by have := h.pb x hx; omega⟩
end
theorem pair_ext {w0 w : World} {g1 g2 : Nat} {n1 n2 : Int} {pins ps : List Int} {l1 l2 : List (Int × Int)} (h : Pair w0 w g1 g2 n1 pins l1 n2 ps l2) : Ext (fun _ => False) w0 w := by
  obtain ⟨_, _, _, _, _, _, _, _, _, _, _, _, _, _, _, _, _, XX⟩ := h
  exact XX
theorem inv_start {w w1 w2 : World} {g1 g2 n c1 c2 : Nat} {a1 a2 : Option Addr} (h1 : Ep w1 (Gr (fun _ => False) w w1) g1 0 (List.replicate n 0) [] a1 c1 none 0) (h2 : Rf w2 (Gr (fun _ => False) w1 w2) g2 0 (List.replicate n (-1)) [] a2 c2 none 0 none 0)
    (X1 : Ext (fun _ => False) w w1) (X2 : Ext (fun _ => False) w1 w2) (hn : n ≤ 6) : Inv w w2 g1 g2 0 (List.replicate n 0) [] 0 := by
  have s1 := X1.size
  have s2 := X2.size
  have e0 : (List.replicate n (0 : Int)).map (· - 1) = List.replicate n (-1) := by simp
  have P : Pair w w2 g1 g2 0 (List.replicate n 0) [] 0 ((List.replicate n (0 : Int)).map (· - 1)) [] := by
    refine ⟨_, _, a1, c1, none, 0, a2, c2, none, 0, none, 0, h1.ext X2 (fun _ _ x => x), e0 ▸ h2, fun k e f => ?_, fun k e => ?_, fun k e => ?_, X1.trans X2⟩
    · rcases e with e | e
      · exact e
      · rcases f with f | f
        · exact f
        · omega
    · rcases e with e | e
      · exact e.elim
      · omega
    · rcases e with e | e
      · exact e.elim
      · omega
  exact ⟨P, Int.le_refl _, by simp, by simp, by simp; omega, fun x hx => by simp at hx; omega⟩
set_option maxHeartbeats 8000000 in
set_option maxRecDepth 100000 in
theorem law_ (w : World) (t : Int) (aa : Option Addr) (len cap : Nat) (zs : List Int) (ht : -9223372036854775808 ≤ t ∧ t ≤ 9223372036854775807) (hr : RdI w aa len zs) :
    Calls Try.prog 3 #[.int .i64 t, .slice aa len cap] w fun e w' => e = .returned (.bool true) ∧ Ext (fun _ => False) w w' := by
  obtain ⟨ht1, ht2⟩ := ht
  obtain ⟨hlen, hcell⟩ := hr
  have hlen' : len ≤ 9223372036854775807 := by unfold maxLen at hlen; omega
  replace hcell := Lib.hid hcell
  have m0 : 0 ≤ t % 8 := by omega
  have m1 : t % 8 ≤ 7 := by omega
  obtain ⟨n, hn⟩ : ∃ n : Nat, t % 8 - 1 = n ∨ (t % 8 - 1 < 0 ∧ n = 0) := ⟨(t % 8 - 1).toNat, by omega⟩
  have hn7 : n ≤ 6 := by omega
  replace hn := Lib.hid hn
  go_enter Try.func3, Try.ntmps3
  go_wp2_with fail
  refine (new_ w n _ (by omega) hn.out).mono ?_
  rintro e w1 ⟨g1, a1, c1, rfl, h1, X1⟩
  go_wp2_with fail
  refine (rnew_ w1 n _ (by omega) hn.out).mono ?_
  rintro e w2 ⟨g2, a2, c2, rfl, h2, X2⟩
  have hI := inv_start h1 h2 X1 X2 hn7
  replace hI := Lib.hid hI
  clear h1 h2 X1 X2 hn
  go_wp2_with fail
  go_loopw [7] (fun i wr => ∃ k : Nat, k ≤ len ∧ k ≤ 80 ∧ i = .int .i64 k ∧ ∃ n pins l, Hid (Inv w wr g1 g2 n pins l k)) (fun i _ => 80 - (intOf i).toNat)
  case atStart => exact ⟨0, Nat.zero_le _, by omega, rfl, 0, _, [], hI⟩
  case round =>
    obtain ⟨k, hk, hk80, rfl, nn, pins, l, hI⟩ := hrel
    by_cases hlt : k < len ∧ k < 80
    · obtain ⟨hlt1, hlt2⟩ := hlt
      obtain ⟨b, off, ea, hb, hce⟩ := hcell.out (by omega)
      cases ea
      have XX := pair_ext hI.out.pair
      have hc : wr.cell? ⟨b, off + k, none⟩ = some (.int .i64 (zs.getD k 0)) := by
        rw [World.cell?_of_block (XX.block b hb (fun x => x))]; exact (hce k hlt1).1
      have hz := (hce k hlt1).2
      have hbr : b < wr.heap.size := Nat.lt_of_lt_of_le hb XX.size
      have hd1 : decide ((k : Int) < (len : Int)) = true := decide_eq_true (by omega)
      have hd2 : decide ((k : Int) < 80) = true := decide_eq_true (by omega)
      have k0 : (0 : Int) ≤ (k : Int) := by omega
      have k1 : (k : Int) < (len : Int) := by omega
      generalize zs.getD k 0 = z at *
      obtain ⟨hz1, hz2⟩ := hz
      replace XX := Lib.hid XX
      replace hce := Lib.hid hce
      go_upto_block 2 with fail
      go_cut [9] (fun s9 wx => ∃ n' pins' l', Hid (Inv w wx g1 g2 n' pins' l' (k + 1)))
      case first =>
        have hp := hI.out.big (by omega)
        obtain ⟨hpair, hn0, hn1, hll, hpl, hpb⟩ := hI.out
        have hnn : Hid (∀ x ∈ pins, 0 ≤ x) := fun x hx => (hp x hx).1
        replace hpb := Lib.hid hpb
        have hm : z % 8 = 0 ∨ z % 8 = 1 ∨ z % 8 = 2 ∨ z % 8 = 3 ∨ z % 8 = 4 ∨ z % 8 = 5 ∨ z % 8 = 6 ∨ z % 8 = 7 := by omega
        generalize z % 8 = m at *
        generalize z / 8 % 16 - 2 = tt at *
        have hn' : 0 ≤ nn ∧ nn ≤ 900 := by omega
        rcases hm with rfl | rfl | rfl | rfl | rfl | rfl | rfl | rfl
        iterate 2
          as_aux_lemma =>
            rcases pin_cases pins tt hnn.out with ⟨i, rfl, hi, hz0, hok⟩ | ⟨hok, hout⟩
            · replace hz0 := Lib.hid hz0
              replace hok := Lib.hid hok
              go_wp2_with (first
                | (go_at_call 6; refine (p_pin_yes hpair hp hn' i hok.out).mono ?_; rintro e wA ⟨rfl, hA⟩)
                | (go_at_call 7; refine (p_rpin_yes (by assumption) i (by simpa using hi) (by rw [map_getD _ _ hi, hz0.out]; decide)).mono ?_; rintro e wB ⟨rfl, hB⟩))
              go_meet
              exact ⟨_, _, _, inv_pin ⟨hpair, hn0, hn1, hll, hpl, hpb.out⟩ hB⟩
            · replace hok := Lib.hid hok
              replace hout := Lib.hid hout
              go_wp2_with (first
                | (go_at_call 6; refine (p_pin_no hpair hp tt hok.out).mono ?_; rintro e wA ⟨rfl, hA⟩)
                | (go_at_call 7; refine (p_rpin_no (by assumption) tt (out_pin hout.out)).mono ?_; rintro e wB ⟨rfl, hB⟩))
              go_meet
              exact ⟨_, _, _, inv_same ⟨hpair, hn0, hn1, hll, hpl, hpb.out⟩ hB⟩
        iterate 2
          as_aux_lemma =>
            rcases unpin_cases pins tt hnn.out with ⟨i, rfl, hi, hz0, hok⟩ | ⟨hok, hout⟩
            · replace hok := Lib.hid hok
              go_wp2_with (first
                | (go_at_call 8; refine (p_unpin_yes hpair hp i _ hok.out).mono ?_; rintro e wA ⟨rfl, hA⟩)
                | (go_at_call 9; refine (p_runpin_yes (by assumption) i (by simpa using hi) (by rw [map_getD _ _ hi]; omega)).mono ?_; rintro e wB ⟨rfl, hB⟩))
              go_meet
              exact ⟨_, _, _, inv_unpin ⟨hpair, hn0, hn1, hll, hpl, hpb.out⟩ hB⟩
            · replace hok := Lib.hid hok
              replace hout := Lib.hid hout
              go_wp2_with (first
                | (go_at_call 8; refine (p_unpin_no hpair hp tt _ hok.out).mono ?_; rintro e wA ⟨rfl, hA⟩)
                | (go_at_call 9; refine (p_runpin_no (by assumption) tt (out_unpin hout.out)).mono ?_; rintro e wB ⟨rfl, hB⟩))
              go_meet
              exact ⟨_, _, _, inv_same ⟨hpair, hn0, hn1, hll, hpl, hpb.out⟩ hB⟩
        iterate 2
          as_aux_lemma =>
            go_wp2_with (first
              | (go_at_call 10; refine (p_retire hpair z (by omega)).mono ?_; rintro e wA ⟨rfl, hA⟩; have hcA : wA.cell? ⟨b, off + k, none⟩ = some (.int .i64 z) := by rw [World.cell?_of_block ((pair_ext hA).block b hb (fun x => x)), ← World.cell?_of_block (XX.out.block b hb (fun x => x))]; exact hc)
              | (go_at_call 11; refine (p_rretire (by assumption) z (by omega)).mono ?_; rintro e wB ⟨rfl, hB⟩))
            go_meet
            exact ⟨_, _, _, inv_retire ⟨hpair, hn0, hn1, hll, hpl, hpb.out⟩ hB⟩
        iterate 2
          as_aux_lemma =>
            cases hcan : can nn pins with
            | true =>
              replace hcan := Lib.hid hcan
              go_wp2_with (first
                | (go_at_call 12; refine (p_adv_yes hpair hp (by omega) (by omega) hn' hcan.out).mono ?_; rintro e wA ⟨v, rfl, hA⟩)
                | (go_at_call 13; refine (p_radv_yes (by assumption) (by simp; omega) (by omega) hn' (by rw [can_eq _ _ hnn.out]; exact hcan.out)).mono ?_; rintro e wB ⟨u, rfl, hB, oV, oU⟩)
                | (go_at_call 14; refine (sameInts_ oV oU (by have := gone_le (nn + 1) l; omega) (by have := gone_le (nn + 1) l; omega) true (by simp)).mono ?_; rintro e wC ⟨rfl, dC⟩))
              go_meet
              exact ⟨_, _, _, inv_adv ⟨hpair, hn0, hn1, hll, hpl, hpb.out⟩ (hB.ext (dC.ext _))⟩
            | false =>
              replace hcan := Lib.hid hcan
              have oN := World.ownsRow_nil
              go_wp2_with (first
                | (go_at_call 12; refine (p_adv_no hpair hp (by omega) hcan.out).mono ?_; rintro e wA ⟨rfl, hA⟩)
                | (go_at_call 13; refine (p_radv_no (by assumption) (by simp; omega) (by rw [can_eq _ _ hnn.out]; exact hcan.out)).mono ?_; rintro e wB ⟨rfl, hB⟩)
                | (go_at_call 14; refine (sameInts_ (xs := []) (ys := []) (World.ownsRow_nil _ _ _ _) (World.ownsRow_nil _ _ _ _) (by decide) (by decide) true (by decide)).mono ?_; rintro e wC ⟨rfl, dC⟩))
              go_meet
              exact ⟨_, _, _, inv_same ⟨hpair, hn0, hn1, hll, hpl, hpb.out⟩ (hB.ext (dC.ext _))⟩
      case rest =>
        obtain ⟨n', pins', l', hJ⟩ := hcut
        have hp := hJ.out.big (by omega)
        have hnn : Hid (∀ x ∈ pins', 0 ≤ x) := fun x hx => (hp x hx).1
        have hl' : l'.length ≤ k + 1 := hJ.out.ll
        obtain ⟨F1, F2, ap, cp, al, cl, bp, dp, bl, dl, bw, dw, h1, h2, _, _, _, X0⟩ := hJ.out.pair
        obtain ⟨ps', hps⟩ : ∃ q, q = pins'.map (· - 1) := ⟨_, rfl⟩
        rw [← hps] at h2
        have hgl := h2.row.lt
        have c0 : wc.cell? ⟨g2, 0, none⟩ = some (.int .i64 n') := h2.row.cell 0
        have c1 : wc.cell? ⟨g2, 1, none⟩ = some (.slice bp ps'.length dp) := h2.row.cell 1
        have c2 : wc.cell? ⟨g2, 2, none⟩ = some (.slice bl l'.length dl) := h2.row.cell 2
        generalize z / 8 % 16 - 2 = tt at *
        rcases unpin_cases pins' tt hnn.out with ⟨i, rfl, hi, hz0, hok⟩ | ⟨hok, hout⟩
        · have hi' : i < ps'.length := by rw [hps, List.length_map]; exact hi
          have hq := map_getD pins' i hi
          rw [← hps] at hq
          obtain ⟨gp, ea, hcp, _, _⟩ := h2.pinCell i hi'
          cases ea
          rw [hq] at hcp
          have hgp : gp < wc.heap.size := own_lt h2.pin gp rfl
          replace hok := Lib.hid hok
          replace hps := Lib.hid hps
          replace hq := Lib.hid hq
          have i0 : (0 : Int) ≤ (i : Int) := by omega
          have i1 : (i : Int) < (ps'.length : Int) := by omega
          have ge : ∀ W, Ext (fun _ => False) wc W → W.cell? ⟨gp, i, none⟩ = some (.int .i64 (pins'.getD i 0 - 1)) := fun W x => by
            rw [World.cell?_of_block (x.block gp hgp (fun x => x))]; exact hcp
          replace ge := Lib.hid ge
          generalize pins'.getD i 0 = q at *
          have q0 : 0 ≤ q - 1 := by omega
          as_aux_lemma =>
          go_wp2_with (go_at_call 15; refine (pinned_ h1 hp _ _ _ hok.out).mono ?_; rintro e wP ⟨rfl, rfl⟩)
          have hS : wc.drew.cell? ⟨g2, 0, none⟩ = some (.int .i64 n') ∧ wc.drew.cell? ⟨g2, 1, none⟩ = some (.slice (some ⟨gp, 0, none⟩) ps'.length dp) ∧ wc.drew.cell? ⟨g2, 2, none⟩ = some (.slice bl l'.length dl) ∧ wc.drew.cell? ⟨gp, i, none⟩ = some (.int .i64 (q - 1)) := ⟨c0, c1, c2, hcp⟩
          refine wp_region_any (by kernel_rfl) ?_
          change wpAny _ _ _ _ _ _ _ (World.drew _)
          refine wpAny_of_J (S := fun w' => w'.cell? ⟨g2, 0, none⟩ = some (.int .i64 n') ∧ w'.cell? ⟨g2, 1, none⟩ = some (.slice (some ⟨gp, 0, none⟩) ps'.length dp) ∧ w'.cell? ⟨g2, 2, none⟩ = some (.slice bl l'.length dl) ∧ w'.cell? ⟨gp, i, none⟩ = some (.int .i64 (q - 1))) (J := fun _ => true) _ _ _ _ ?_
          refine wpJ_take 0 (oi := { dst := some 128, op := Op.move (Operand.tmp 14), type := 4, pos := "law.go:57", after := #[], guard := none }) (v := ?v0a) rfl (by kernel_rfl) (by kernel_rfl) (fun _ _ _ h => h) hS (Or.inl ⟨by rfl, ?y0a⟩) (fun _ => ?r0a)
          case y0a => intro W hW; obtain ⟨hW0, hW1, hW2, hW3⟩ := hW; go_simp; (try with_reducible rfl)
          try simp only [Act.put, List.setIfInBounds_toArray, List.set_cons_zero, List.set_cons_succ]
          refine wpJ_take 1 (oi := { dst := some 129, op := Op.move (Operand.tmp 15), type := 4, pos := "law.go:57", after := #[], guard := none }) (v := ?v1a) rfl (by kernel_rfl) (by kernel_rfl) (fun _ _ _ h => h) hS (Or.inl ⟨by rfl, ?y1a⟩) (fun _ => ?r1a)
          case y1a => intro W hW; obtain ⟨hW0, hW1, hW2, hW3⟩ := hW; go_simp; (try with_reducible rfl)
          try simp only [Act.put, List.setIfInBounds_toArray, List.set_cons_zero, List.set_cons_succ]
          refine wpJ_take 2 (oi := { dst := some 130, op := Op.binOp BinOp.neq 4 (Operand.tmp 128) (Operand.tmp 129) 4, type := 4, pos := "law.go:57", after := #[{ on := 0, ground := Ground.data }, { on := 1, ground := Ground.data }], guard := none }) (v := ?v2a) rfl (by kernel_rfl) (by kernel_rfl) (fun _ _ _ h => h) hS (Or.inl ⟨by rfl, ?y2a⟩) (fun _ => ?r2a)
          case y2a => intro W hW; obtain ⟨hW0, hW1, hW2, hW3⟩ := hW; go_simp; (try with_reducible rfl)
          try simp only [Act.put, List.setIfInBounds_toArray, List.set_cons_zero, List.set_cons_succ]
          refine wpJ_take 3 (oi := { dst := some 131, op := Op.move (Operand.tmp 130), type := 4, pos := "law.go:57", after := #[{ on := 2, ground := Ground.data }], guard := none }) (v := ?v3a) rfl (by kernel_rfl) (by kernel_rfl) (fun _ _ _ h => h) hS (Or.inl ⟨by rfl, ?y3a⟩) (fun _ => ?r3a)
          case y3a => intro W hW; obtain ⟨hW0, hW1, hW2, hW3⟩ := hW; go_simp; (try with_reducible rfl)
          try simp only [Act.put, List.setIfInBounds_toArray, List.set_cons_zero, List.set_cons_succ]
          refine wpJ_take 4 (oi := { dst := some 132, op := Op.move (Operand.tmp 15), type := 4, pos := "law.go:57", after := #[{ on := 3, ground := Ground.guard }], guard := some (3, false) }) (v := ?v4a) rfl (by kernel_rfl) (by kernel_rfl) (fun _ _ _ h => h) hS (Or.inl ⟨by rfl, ?y4a⟩) (fun _ => ?r4a)
          case y4a => intro W hW; obtain ⟨hW0, hW1, hW2, hW3⟩ := hW; go_simp; (try with_reducible rfl)
          try simp only [Act.put, List.setIfInBounds_toArray, List.set_cons_zero, List.set_cons_succ]
          refine wpJ_take 5 (oi := { dst := some 133, op := Op.move (Operand.tmp 132), type := 4, pos := "law.go:57", after := #[{ on := 4, ground := Ground.data }, { on := 3, ground := Ground.chain }, { on := 3, ground := Ground.guard }], guard := some (3, false) }) (v := ?v5a) rfl (by kernel_rfl) (by kernel_rfl) (fun _ _ _ h => h) hS (Or.inl ⟨by rfl, ?y5a⟩) (fun _ => ?r5a)
          case y5a => intro W hW; obtain ⟨hW0, hW1, hW2, hW3⟩ := hW; go_simp; (try with_reducible rfl)
          try simp only [Act.put, List.setIfInBounds_toArray, List.set_cons_zero, List.set_cons_succ]
          refine wpJ_take 6 (oi := { dst := some 134, op := Op.move (Operand.tmp 13), type := 3, pos := "law.go:57", after := #[{ on := 5, ground := Ground.guard }], guard := some (5, true) }) (v := ?v6a) rfl (by kernel_rfl) (by kernel_rfl) (fun _ _ _ h => h) hS (Or.inl ⟨by rfl, ?y6a⟩) (fun _ => ?r6a)
          case y6a => intro W hW; obtain ⟨hW0, hW1, hW2, hW3⟩ := hW; go_simp; (try with_reducible rfl)
          try simp only [Act.put, List.setIfInBounds_toArray, List.set_cons_zero, List.set_cons_succ]
          refine wpJ_take 7 (oi := { dst := some 135, op := Op.move (Operand.tmp 6), type := 25, pos := "law.go:57", after := #[{ on := 5, ground := Ground.guard }], guard := some (5, true) }) (v := ?v7a) rfl (by kernel_rfl) (by kernel_rfl) (fun _ _ _ h => h) hS (Or.inl ⟨by rfl, ?y7a⟩) (fun _ => ?r7a)
          case y7a => intro W hW; obtain ⟨hW0, hW1, hW2, hW3⟩ := hW; go_simp; (try with_reducible rfl)
          try simp only [Act.put, List.setIfInBounds_toArray, List.set_cons_zero, List.set_cons_succ]
          refine wpJ_take 8 (oi := { dst := some 136, op := Op.nilCheck (Operand.tmp 135), type := 0, pos := "law.go:57", after := #[{ on := 7, ground := Ground.data }, { on := 5, ground := Ground.guard }], guard := some (5, true) }) (v := ?v8a) rfl (by kernel_rfl) (by kernel_rfl) (fun _ _ _ h => h) hS (Or.inl ⟨by rfl, ?y8a⟩) (fun _ => ?r8a)
          case y8a => intro W hW; obtain ⟨hW0, hW1, hW2, hW3⟩ := hW; go_simp; (try with_reducible rfl)
          try simp only [Act.put, List.setIfInBounds_toArray, List.set_cons_zero, List.set_cons_succ]
          refine wpJ_take 9 (oi := { dst := some 137, op := Op.fieldAddr 36 (Operand.tmp 136) 1, type := 0, pos := "law.go:57", after := #[{ on := 8, ground := Ground.data }, { on := 5, ground := Ground.guard }], guard := some (5, true) }) (v := ?v9a) rfl (by kernel_rfl) (by kernel_rfl) (fun _ _ _ h => h) hS (Or.inl ⟨by rfl, ?y9a⟩) (fun _ => ?r9a)
          case y9a => intro W hW; obtain ⟨hW0, hW1, hW2, hW3⟩ := hW; go_simp; (try with_reducible rfl)
          try simp only [Act.put, List.setIfInBounds_toArray, List.set_cons_zero, List.set_cons_succ]
          refine wpJ_take 10 (oi := { dst := some 138, op := Op.load 22 (Operand.tmp 137), type := 22, pos := "law.go:57", after := #[{ on := 9, ground := Ground.data }, { on := 5, ground := Ground.guard }], guard := some (5, true) }) (v := ?v10a) rfl (by kernel_rfl) (by kernel_rfl) (fun _ _ _ h => h) hS (Or.inl ⟨by rfl, ?y10a⟩) (fun _ => ?r10a)
          case y10a => intro W hW; obtain ⟨hW0, hW1, hW2, hW3⟩ := hW; go_simp; (try with_reducible rfl)
          try simp only [Act.put, List.setIfInBounds_toArray, List.set_cons_zero, List.set_cons_succ]
          refine wpJ_take 11 (oi := { dst := some 139, op := Op.move (Operand.tmp 8), type := 3, pos := "law.go:57", after := #[{ on := 5, ground := Ground.guard }], guard := some (5, true) }) (v := ?v11a) rfl (by kernel_rfl) (by kernel_rfl) (fun _ _ _ h => h) hS (Or.inl ⟨by rfl, ?y11a⟩) (fun _ => ?r11a)
          case y11a => intro W hW; obtain ⟨hW0, hW1, hW2, hW3⟩ := hW; go_simp; (try with_reducible rfl)
          try simp only [Act.put, List.setIfInBounds_toArray, List.set_cons_zero, List.set_cons_succ]
          refine wpJ_take 12 (oi := { dst := some 140, op := Op.indexAddr 22 (Operand.tmp 138) (Operand.tmp 139), type := 0, pos := "law.go:57", after := #[{ on := 10, ground := Ground.data }, { on := 11, ground := Ground.data }, { on := 5, ground := Ground.guard }], guard := some (5, true) }) (v := ?v12a) rfl (by kernel_rfl) (by kernel_rfl) (fun _ _ _ h => h) hS (Or.inl ⟨by rfl, ?y12a⟩) (fun _ => ?r12a)
          case y12a => intro W hW; obtain ⟨hW0, hW1, hW2, hW3⟩ := hW; go_simp; (try with_reducible rfl)
          try simp only [Act.put, List.setIfInBounds_toArray, List.set_cons_zero, List.set_cons_succ]
          refine wpJ_take 13 (oi := { dst := some 141, op := Op.load 3 (Operand.tmp 140), type := 3, pos := "law.go:57", after := #[{ on := 12, ground := Ground.data }, { on := 5, ground := Ground.guard }], guard := some (5, true) }) (v := ?v13a) rfl (by kernel_rfl) (by kernel_rfl) (fun _ _ _ h => h) hS (Or.inl ⟨by rfl, ?y13a⟩) (fun _ => ?r13a)
          case y13a => intro W hW; obtain ⟨hW0, hW1, hW2, hW3⟩ := hW; go_simp; (try with_reducible rfl)
          try simp only [Act.put, List.setIfInBounds_toArray, List.set_cons_zero, List.set_cons_succ]
          refine wpJ_take 14 (oi := { dst := some 142, op := Op.binOp BinOp.neq 3 (Operand.tmp 134) (Operand.tmp 141) 3, type := 4, pos := "law.go:57", after := #[{ on := 6, ground := Ground.data }, { on := 13, ground := Ground.data }, { on := 5, ground := Ground.guard }], guard := some (5, true) }) (v := ?v14a) rfl (by kernel_rfl) (by kernel_rfl) (fun _ _ _ h => h) hS (Or.inl ⟨by rfl, ?y14a⟩) (fun _ => ?r14a)
          case y14a => intro W hW; obtain ⟨hW0, hW1, hW2, hW3⟩ := hW; go_simp; (try with_reducible rfl)
          try simp only [Act.put, List.setIfInBounds_toArray, List.set_cons_zero, List.set_cons_succ]
          refine wpJ_take 15 (oi := { dst := some 143, op := Op.pick (Operand.tmp 133) (Operand.tmp 142) (Operand.const (Value.bool false)), type := 4, pos := "law.go:57", after := #[{ on := 5, ground := Ground.data }, { on := 14, ground := Ground.data }, { on := 3, ground := Ground.guard }], guard := some (3, false) }) (v := ?v15a) rfl (by kernel_rfl) (by kernel_rfl) (fun _ _ _ h => h) hS (Or.inl ⟨by rfl, ?y15a⟩) (fun _ => ?r15a)
          case y15a => intro W hW; obtain ⟨hW0, hW1, hW2, hW3⟩ := hW; go_simp; (try with_reducible rfl)
          try simp only [Act.put, List.setIfInBounds_toArray, List.set_cons_zero, List.set_cons_succ]
          refine wpJ_take 16 (oi := { dst := some 144, op := Op.pick (Operand.tmp 131) (Operand.const (Value.bool true)) (Operand.tmp 143), type := 4, pos := "law.go:57", after := #[{ on := 3, ground := Ground.data }, { on := 15, ground := Ground.data }], guard := none }) (v := ?v16a) rfl (by kernel_rfl) (by kernel_rfl) (fun _ _ _ h => h) hS (Or.inl ⟨by rfl, ?y16a⟩) (fun _ => ?r16a)
          case y16a => intro W hW; obtain ⟨hW0, hW1, hW2, hW3⟩ := hW; go_simp; (try with_reducible rfl)
          try simp only [Act.put, List.setIfInBounds_toArray, List.set_cons_zero, List.set_cons_succ]
          refine wpJ_take 17 (oi := { dst := some 145, op := Op.move (Operand.tmp 144), type := 4, pos := "law.go:57", after := #[{ on := 16, ground := Ground.data }, { on := 5, ground := Ground.chain }], guard := none }) (v := ?v17a) rfl (by kernel_rfl) (by kernel_rfl) (fun _ _ _ h => h) hS (Or.inl ⟨by rfl, ?y17a⟩) (fun _ => ?r17a)
          case y17a => intro W hW; obtain ⟨hW0, hW1, hW2, hW3⟩ := hW; go_simp; (try with_reducible rfl)
          try simp only [Act.put, List.setIfInBounds_toArray, List.set_cons_zero, List.set_cons_succ]
          refine wpJ_take 18 (oi := { dst := some 146, op := Op.move (Operand.tmp 15), type := 4, pos := "law.go:57", after := #[{ on := 17, ground := Ground.guard }], guard := some (17, false) }) (v := ?v18a) rfl (by kernel_rfl) (by kernel_rfl) (fun _ _ _ h => h) hS (Or.inl ⟨by rfl, ?y18a⟩) (fun _ => ?r18a)
          case y18a => intro W hW; obtain ⟨hW0, hW1, hW2, hW3⟩ := hW; go_simp; (try with_reducible rfl)
          try simp only [Act.put, List.setIfInBounds_toArray, List.set_cons_zero, List.set_cons_succ]
          refine wpJ_take 19 (oi := { dst := some 147, op := Op.unOp UnOp.not 4 (Operand.tmp 146), type := 4, pos := "law.go:57", after := #[{ on := 18, ground := Ground.data }, { on := 17, ground := Ground.guard }], guard := some (17, false) }) (v := ?v19a) rfl (by kernel_rfl) (by kernel_rfl) (fun _ _ _ h => h) hS (Or.inl ⟨by rfl, ?y19a⟩) (fun _ => ?r19a)
          case y19a => intro W hW; obtain ⟨hW0, hW1, hW2, hW3⟩ := hW; go_simp; (try with_reducible rfl)
          try simp only [Act.put, List.setIfInBounds_toArray, List.set_cons_zero, List.set_cons_succ]
          refine wpJ_take 20 (oi := { dst := some 148, op := Op.move (Operand.tmp 147), type := 4, pos := "law.go:57", after := #[{ on := 19, ground := Ground.data }, { on := 17, ground := Ground.chain }, { on := 17, ground := Ground.guard }], guard := some (17, false) }) (v := ?v20a) rfl (by kernel_rfl) (by kernel_rfl) (fun _ _ _ h => h) hS (Or.inl ⟨by rfl, ?y20a⟩) (fun _ => ?r20a)
          case y20a => intro W hW; obtain ⟨hW0, hW1, hW2, hW3⟩ := hW; go_simp; (try with_reducible rfl)
          try simp only [Act.put, List.setIfInBounds_toArray, List.set_cons_zero, List.set_cons_succ]
          refine wpJ_take 21 (oi := { dst := some 149, op := Op.move (Operand.tmp 13), type := 3, pos := "law.go:57", after := #[{ on := 20, ground := Ground.guard }], guard := some (20, true) }) (v := undef) rfl (by kernel_rfl) (by kernel_rfl) (fun _ _ _ h => h) hS (Or.inr ⟨by rfl, rfl⟩) (fun _ => ?_)
          try simp only [Act.put, List.setIfInBounds_toArray, List.set_cons_zero, List.set_cons_succ]
          refine wpJ_take 22 (oi := { dst := some 150, op := Op.binOp BinOp.neq 3 (Operand.tmp 149) (Operand.const (Value.int IntKind.i64 0)) 3, type := 4, pos := "law.go:57", after := #[{ on := 21, ground := Ground.data }, { on := 20, ground := Ground.guard }], guard := some (20, true) }) (v := undef) rfl (by kernel_rfl) (by kernel_rfl) (fun _ _ _ h => h) hS (Or.inr ⟨by rfl, rfl⟩) (fun _ => ?_)
          try simp only [Act.put, List.setIfInBounds_toArray, List.set_cons_zero, List.set_cons_succ]
          refine wpJ_take 23 (oi := { dst := some 151, op := Op.pick (Operand.tmp 148) (Operand.tmp 150) (Operand.const (Value.bool false)), type := 4, pos := "law.go:57", after := #[{ on := 20, ground := Ground.data }, { on := 22, ground := Ground.data }, { on := 17, ground := Ground.guard }], guard := some (17, false) }) (v := ?v23a) rfl (by kernel_rfl) (by kernel_rfl) (fun _ _ _ h => h) hS (Or.inl ⟨by rfl, ?y23a⟩) (fun _ => ?r23a)
          case y23a => intro W hW; obtain ⟨hW0, hW1, hW2, hW3⟩ := hW; go_simp; (try with_reducible rfl)
          try simp only [Act.put, List.setIfInBounds_toArray, List.set_cons_zero, List.set_cons_succ]
          refine wpJ_take 24 (oi := { dst := some 152, op := Op.pick (Operand.tmp 145) (Operand.const (Value.bool true)) (Operand.tmp 151), type := 4, pos := "law.go:57", after := #[{ on := 17, ground := Ground.data }, { on := 23, ground := Ground.data }], guard := none }) (v := ?v24a) rfl (by kernel_rfl) (by kernel_rfl) (fun _ _ _ h => h) hS (Or.inl ⟨by rfl, ?y24a⟩) (fun _ => ?r24a)
          case y24a => intro W hW; obtain ⟨hW0, hW1, hW2, hW3⟩ := hW; go_simp; (try with_reducible rfl)
          try simp only [Act.put, List.setIfInBounds_toArray, List.set_cons_zero, List.set_cons_succ]
          refine wpJ_take 25 (oi := { dst := some 153, op := Op.move (Operand.tmp 152), type := 4, pos := "law.go:57", after := #[{ on := 24, ground := Ground.data }, { on := 20, ground := Ground.chain }], guard := none }) (v := ?v25a) rfl (by kernel_rfl) (by kernel_rfl) (fun _ _ _ h => h) hS (Or.inl ⟨by rfl, ?y25a⟩) (fun _ => ?r25a)
          case y25a => intro W hW; obtain ⟨hW0, hW1, hW2, hW3⟩ := hW; go_simp; (try with_reducible rfl)
          try simp only [Act.put, List.setIfInBounds_toArray, List.set_cons_zero, List.set_cons_succ]
          refine wpJ_take 26 (oi := { dst := some 154, op := Op.move (Operand.tmp 5), type := 23, pos := "law.go:57", after := #[{ on := 25, ground := Ground.guard }], guard := some (25, false) }) (v := ?v26a) rfl (by kernel_rfl) (by kernel_rfl) (fun _ _ _ h => h) hS (Or.inl ⟨by rfl, ?y26a⟩) (fun _ => ?r26a)
          case y26a => intro W hW; obtain ⟨hW0, hW1, hW2, hW3⟩ := hW; go_simp; (try with_reducible rfl)
          try simp only [Act.put, List.setIfInBounds_toArray, List.set_cons_zero, List.set_cons_succ]
          refine wpJ_take 28 (oi := { dst := some 156, op := Op.move (Operand.tmp 6), type := 25, pos := "law.go:57", after := #[{ on := 25, ground := Ground.guard }], guard := some (25, false) }) (v := ?v28a) rfl (by kernel_rfl) (by kernel_rfl) (fun _ _ _ h => h) hS (Or.inl ⟨by rfl, ?y28a⟩) (fun _ => ?r28a)
          case y28a => intro W hW; obtain ⟨hW0, hW1, hW2, hW3⟩ := hW; go_simp; (try with_reducible rfl)
          try simp only [Act.put, List.setIfInBounds_toArray, List.set_cons_zero, List.set_cons_succ]
          refine wpJ_take 29 (oi := { dst := some 157, op := Op.nilCheck (Operand.tmp 156), type := 0, pos := "law.go:57", after := #[{ on := 28, ground := Ground.data }, { on := 25, ground := Ground.guard }], guard := some (25, false) }) (v := ?v29a) rfl (by kernel_rfl) (by kernel_rfl) (fun _ _ _ h => h) hS (Or.inl ⟨by rfl, ?y29a⟩) (fun _ => ?r29a)
          case y29a => intro W hW; obtain ⟨hW0, hW1, hW2, hW3⟩ := hW; go_simp; (try with_reducible rfl)
          try simp only [Act.put, List.setIfInBounds_toArray, List.set_cons_zero, List.set_cons_succ]
          refine wpJ_take 30 (oi := { dst := some 158, op := Op.fieldAddr 36 (Operand.tmp 157) 0, type := 0, pos := "law.go:57", after := #[{ on := 29, ground := Ground.data }, { on := 25, ground := Ground.guard }], guard := some (25, false) }) (v := ?v30a) rfl (by kernel_rfl) (by kernel_rfl) (fun _ _ _ h => h) hS (Or.inl ⟨by rfl, ?y30a⟩) (fun _ => ?r30a)
          case y30a => intro W hW; obtain ⟨hW0, hW1, hW2, hW3⟩ := hW; go_simp; (try with_reducible rfl)
          try simp only [Act.put, List.setIfInBounds_toArray, List.set_cons_zero, List.set_cons_succ]
          refine wpJ_take 31 (oi := { dst := some 159, op := Op.load 3 (Operand.tmp 158), type := 3, pos := "law.go:57", after := #[{ on := 30, ground := Ground.data }, { on := 25, ground := Ground.guard }], guard := some (25, false) }) (v := ?v31a) rfl (by kernel_rfl) (by kernel_rfl) (fun _ _ _ h => h) hS (Or.inl ⟨by rfl, ?y31a⟩) (fun _ => ?r31a)
          case y31a => intro W hW; obtain ⟨hW0, hW1, hW2, hW3⟩ := hW; go_simp; (try with_reducible rfl)
          try simp only [Act.put, List.setIfInBounds_toArray, List.set_cons_zero, List.set_cons_succ]
          refine wpJ_one 27 (oi := { dst := some 155, op := Op.call { callee := Callee.value (Operand.func 16), args := #[Operand.tmp 154], argTypes := #[23] }, type := 3, pos := "law.go:57", after := #[{ on := 26, ground := Ground.data }, { on := 25, ground := Ground.chain }, { on := 25, ground := Ground.guard }], guard := some (25, false) }) rfl (by kernel_rfl) ?_
          intro K hK
          go_simp
          go_at_call 16
          refine (now_ (by exact h1.ext (G := fun _ => False) (by repeat' (first | exact Ext.refl _ _ | assumption | apply Ext.alloc | apply Ext.drewN | apply Ext.drew)) (fun _ _ x => x))).mono ?_
          rintro e wN ⟨rfl, rfl⟩
          refine hK _ _ (fun _ => hS) ?_
          clear hK K
          try simp only [Act.put, List.setIfInBounds_toArray, List.set_cons_zero, List.set_cons_succ]
          refine wpJ_take 32 (oi := { dst := some 160, op := Op.binOp BinOp.neq 3 (Operand.tmp 155) (Operand.tmp 159) 3, type := 4, pos := "law.go:57", after := #[{ on := 27, ground := Ground.data }, { on := 31, ground := Ground.data }, { on := 25, ground := Ground.guard }], guard := some (25, false) }) (v := ?v32a) rfl (by kernel_rfl) (by kernel_rfl) (fun _ _ _ h => h) hS (Or.inl ⟨by rfl, ?y32a⟩) (fun _ => ?r32a)
          case y32a => intro W hW; obtain ⟨hW0, hW1, hW2, hW3⟩ := hW; go_simp; (try with_reducible rfl)
          try simp only [Act.put, List.setIfInBounds_toArray, List.set_cons_zero, List.set_cons_succ]
          refine wpJ_take 33 (oi := { dst := some 161, op := Op.pick (Operand.tmp 153) (Operand.const (Value.bool true)) (Operand.tmp 160), type := 4, pos := "law.go:57", after := #[{ on := 25, ground := Ground.data }, { on := 32, ground := Ground.data }], guard := none }) (v := ?v33a) rfl (by kernel_rfl) (by kernel_rfl) (fun _ _ _ h => h) hS (Or.inl ⟨by rfl, ?y33a⟩) (fun _ => ?r33a)
          case y33a => intro W hW; obtain ⟨hW0, hW1, hW2, hW3⟩ := hW; go_simp; (try with_reducible rfl)
          try simp only [Act.put, List.setIfInBounds_toArray, List.set_cons_zero, List.set_cons_succ]
          refine wpJ_take 34 (oi := { dst := some 162, op := Op.move (Operand.tmp 161), type := 4, pos := "law.go:57", after := #[{ on := 33, ground := Ground.data }, { on := 27, ground := Ground.chain }], guard := none }) (v := ?v34a) rfl (by kernel_rfl) (by kernel_rfl) (fun _ _ _ h => h) hS (Or.inl ⟨by rfl, ?y34a⟩) (fun _ => ?r34a)
          case y34a => intro W hW; obtain ⟨hW0, hW1, hW2, hW3⟩ := hW; go_simp; (try with_reducible rfl)
          try simp only [Act.put, List.setIfInBounds_toArray, List.set_cons_zero, List.set_cons_succ]
          refine wpJ_take 35 (oi := { dst := some 163, op := Op.move (Operand.tmp 5), type := 23, pos := "law.go:57", after := #[{ on := 34, ground := Ground.guard }], guard := some (34, false) }) (v := ?v35a) rfl (by kernel_rfl) (by kernel_rfl) (fun _ _ _ h => h) hS (Or.inl ⟨by rfl, ?y35a⟩) (fun _ => ?r35a)
          case y35a => intro W hW; obtain ⟨hW0, hW1, hW2, hW3⟩ := hW; go_simp; (try with_reducible rfl)
          try simp only [Act.put, List.setIfInBounds_toArray, List.set_cons_zero, List.set_cons_succ]
          refine wpJ_take 37 (oi := { dst := some 165, op := Op.move (Operand.tmp 6), type := 25, pos := "law.go:57", after := #[{ on := 34, ground := Ground.guard }], guard := some (34, false) }) (v := ?v37a) rfl (by kernel_rfl) (by kernel_rfl) (fun _ _ _ h => h) hS (Or.inl ⟨by rfl, ?y37a⟩) (fun _ => ?r37a)
          case y37a => intro W hW; obtain ⟨hW0, hW1, hW2, hW3⟩ := hW; go_simp; (try with_reducible rfl)
          try simp only [Act.put, List.setIfInBounds_toArray, List.set_cons_zero, List.set_cons_succ]
          refine wpJ_take 38 (oi := { dst := some 166, op := Op.nilCheck (Operand.tmp 165), type := 0, pos := "law.go:57", after := #[{ on := 37, ground := Ground.data }, { on := 34, ground := Ground.guard }], guard := some (34, false) }) (v := ?v38a) rfl (by kernel_rfl) (by kernel_rfl) (fun _ _ _ h => h) hS (Or.inl ⟨by rfl, ?y38a⟩) (fun _ => ?r38a)
          case y38a => intro W hW; obtain ⟨hW0, hW1, hW2, hW3⟩ := hW; go_simp; (try with_reducible rfl)
          try simp only [Act.put, List.setIfInBounds_toArray, List.set_cons_zero, List.set_cons_succ]
          refine wpJ_take 39 (oi := { dst := some 167, op := Op.fieldAddr 36 (Operand.tmp 166) 2, type := 0, pos := "law.go:57", after := #[{ on := 38, ground := Ground.data }, { on := 34, ground := Ground.guard }], guard := some (34, false) }) (v := ?v39a) rfl (by kernel_rfl) (by kernel_rfl) (fun _ _ _ h => h) hS (Or.inl ⟨by rfl, ?y39a⟩) (fun _ => ?r39a)
          case y39a => intro W hW; obtain ⟨hW0, hW1, hW2, hW3⟩ := hW; go_simp; (try with_reducible rfl)
          try simp only [Act.put, List.setIfInBounds_toArray, List.set_cons_zero, List.set_cons_succ]
          refine wpJ_take 40 (oi := { dst := some 168, op := Op.load 22 (Operand.tmp 167), type := 22, pos := "law.go:57", after := #[{ on := 39, ground := Ground.data }, { on := 34, ground := Ground.guard }], guard := some (34, false) }) (v := ?v40a) rfl (by kernel_rfl) (by kernel_rfl) (fun _ _ _ h => h) hS (Or.inl ⟨by rfl, ?y40a⟩) (fun _ => ?r40a)
          case y40a => intro W hW; obtain ⟨hW0, hW1, hW2, hW3⟩ := hW; go_simp; (try with_reducible rfl)
          try simp only [Act.put, List.setIfInBounds_toArray, List.set_cons_zero, List.set_cons_succ]
          refine wpJ_one 36 (oi := { dst := some 164, op := Op.call { callee := Callee.value (Operand.func 17), args := #[Operand.tmp 163], argTypes := #[23] }, type := 22, pos := "law.go:57", after := #[{ on := 35, ground := Ground.data }, { on := 34, ground := Ground.chain }, { on := 34, ground := Ground.guard }], guard := some (34, false) }) rfl (by kernel_rfl) ?_
          intro K hK
          go_simp
          go_at_call 17
          refine (waiting_ (by exact h1.ext (G := fun _ => False) (by repeat' (first | exact Ext.refl _ _ | assumption | apply Ext.alloc | apply Ext.drewN | apply Ext.drew)) (fun _ _ x => x)) (by omega)).mono ?_
          rintro e wW ⟨v, rfl, oV, _, XW⟩
          have XW' : Ext (fun _ => False) wc wW := Ext.trans (by repeat' (first | exact Ext.refl _ _ | apply Ext.alloc | apply Ext.drewN | apply Ext.drew)) XW
          have h2W := h2.ext XW' (fun _ _ x => x)
          have hSW : wW.cell? ⟨g2, 0, none⟩ = some (.int .i64 n') ∧ wW.cell? ⟨g2, 1, none⟩ = some (.slice (some ⟨gp, 0, none⟩) ps'.length dp) ∧ wW.cell? ⟨g2, 2, none⟩ = some (.slice bl l'.length dl) ∧ wW.cell? ⟨gp, i, none⟩ = some (.int .i64 (q - 1)) := ⟨h2W.row.cell 0, h2W.row.cell 1, h2W.row.cell 2, ge.out wW XW'⟩
          refine hK _ _ (fun _ => hSW) ?_
          clear hK K
          try simp only [Act.put, List.setIfInBounds_toArray, List.set_cons_zero, List.set_cons_succ]
          refine wpJ_one 41 (oi := { dst := some 169, op := Op.call { callee := Callee.value (Operand.func 14), args := #[Operand.tmp 164, Operand.tmp 168], argTypes := #[22, 22] }, type := 4, pos := "law.go:57", after := #[{ on := 36, ground := Ground.data }, { on := 40, ground := Ground.data }, { on := 36, ground := Ground.chain }, { on := 34, ground := Ground.guard }], guard := some (34, false) }) rfl (by kernel_rfl) ?_
          intro K hK
          go_simp
          go_at_call 14
          refine (sameInts_ (xs := l'.map (·.1)) (ys := l'.map (·.1)) (by rw [List.length_map]; exact own_ext oV (F := fun _ => False) (by repeat' (first | exact Ext.refl _ _ | assumption | apply Ext.alloc | apply Ext.drewN | apply Ext.drew)) (fun _ _ x => x)) (by rw [List.length_map]; exact own_ext h2W.wait (F := fun _ => False) (by repeat' (first | exact Ext.refl _ _ | assumption | apply Ext.alloc | apply Ext.drewN | apply Ext.drew)) (fun _ _ x => x)) (by simp; omega) (by simp; omega) true (by simp)).mono ?_
          rintro e wS ⟨rfl, dS⟩
          have XS : Ext (fun _ => False) wc wS := XW'.trans (Ext.trans (by repeat' (first | exact Ext.refl _ _ | apply Ext.alloc | apply Ext.drewN | apply Ext.drew)) (dS.ext _))
          have h2S := h2.ext XS (fun _ _ x => x)
          have hSS : wS.cell? ⟨g2, 0, none⟩ = some (.int .i64 n') ∧ wS.cell? ⟨g2, 1, none⟩ = some (.slice (some ⟨gp, 0, none⟩) ps'.length dp) ∧ wS.cell? ⟨g2, 2, none⟩ = some (.slice bl l'.length dl) ∧ wS.cell? ⟨gp, i, none⟩ = some (.int .i64 (q - 1)) := ⟨h2S.row.cell 0, h2S.row.cell 1, h2S.row.cell 2, ge.out wS XS⟩
          refine hK _ _ (fun _ => hSS) ?_
          clear hK K
          try simp only [Act.put, List.setIfInBounds_toArray, List.set_cons_zero, List.set_cons_succ]
          refine wpJ_take 42 (oi := { dst := some 170, op := Op.unOp UnOp.not 4 (Operand.tmp 169), type := 4, pos := "law.go:57", after := #[{ on := 41, ground := Ground.data }, { on := 34, ground := Ground.guard }], guard := some (34, false) }) (v := ?v42a) rfl (by kernel_rfl) (by kernel_rfl) (fun _ _ _ h => h) hSS (Or.inl ⟨by rfl, ?y42a⟩) (fun _ => ?r42a)
          case y42a => intro W hW; obtain ⟨hW0, hW1, hW2, hW3⟩ := hW; go_simp; (try with_reducible rfl)
          try simp only [Act.put, List.setIfInBounds_toArray, List.set_cons_zero, List.set_cons_succ]
          refine wpJ_take 43 (oi := { dst := some 171, op := Op.pick (Operand.tmp 162) (Operand.const (Value.bool true)) (Operand.tmp 170), type := 4, pos := "law.go:57", after := #[{ on := 34, ground := Ground.data }, { on := 42, ground := Ground.data }], guard := none }) (v := ?v43a) rfl (by kernel_rfl) (by kernel_rfl) (fun _ _ _ h => h) hSS (Or.inl ⟨by rfl, ?y43a⟩) (fun _ => ?r43a)
          case y43a => intro W hW; obtain ⟨hW0, hW1, hW2, hW3⟩ := hW; go_simp; (try with_reducible rfl)
          try simp only [Act.put, List.setIfInBounds_toArray, List.set_cons_zero, List.set_cons_succ]
          refine wpJ_done _ (by kernel_rfl) ?_
          go_wp2_with fail
          go_roundw
          case rel => exact ⟨k + 1, by omega, by omega, by go_num, n', pins', l', inv_ext hJ.out XS⟩
          case measure => simp [intOf]; omega
        · replace hok := Lib.hid hok
          have hS : wc.drew.cell? ⟨g2, 0, none⟩ = some (.int .i64 n') ∧ wc.drew.cell? ⟨g2, 1, none⟩ = some (.slice bp ps'.length dp) ∧ wc.drew.cell? ⟨g2, 2, none⟩ = some (.slice bl l'.length dl) := ⟨c0, c1, c2⟩
          rcases hout with (hlo | hhi) | ⟨i, rfl, hi, hz⟩
          · have d0 : decide (0 ≤ tt) = false := decide_eq_false (by omega)
            as_aux_lemma =>
            go_wp2_with (go_at_call 15; refine (pinned_ h1 hp _ _ _ hok.out).mono ?_; rintro e wP ⟨rfl, rfl⟩)
            refine wp_region_any (by kernel_rfl) ?_
            change wpAny _ _ _ _ _ _ _ (World.drew _)
            refine wpAny_of_J (S := fun w' => w'.cell? ⟨g2, 0, none⟩ = some (.int .i64 n') ∧ w'.cell? ⟨g2, 1, none⟩ = some (.slice bp ps'.length dp) ∧ w'.cell? ⟨g2, 2, none⟩ = some (.slice bl l'.length dl)) (J := fun _ => true) _ _ _ _ ?_
            refine wpJ_take 0 (oi := { dst := some 128, op := Op.move (Operand.tmp 14), type := 4, pos := "law.go:57", after := #[], guard := none }) (v := ?v0b) rfl (by kernel_rfl) (by kernel_rfl) (fun _ _ _ h => h) hS (Or.inl ⟨by rfl, ?y0b⟩) (fun _ => ?r0b)
            case y0b => intro W hW; obtain ⟨hW0, hW1, hW2⟩ := hW; go_simp; (try with_reducible rfl)
            try simp only [Act.put, List.setIfInBounds_toArray, List.set_cons_zero, List.set_cons_succ]
            refine wpJ_take 1 (oi := { dst := some 129, op := Op.move (Operand.tmp 15), type := 4, pos := "law.go:57", after := #[], guard := none }) (v := ?v1b) rfl (by kernel_rfl) (by kernel_rfl) (fun _ _ _ h => h) hS (Or.inl ⟨by rfl, ?y1b⟩) (fun _ => ?r1b)
            case y1b => intro W hW; obtain ⟨hW0, hW1, hW2⟩ := hW; go_simp; (try with_reducible rfl)
            try simp only [Act.put, List.setIfInBounds_toArray, List.set_cons_zero, List.set_cons_succ]
            refine wpJ_take 2 (oi := { dst := some 130, op := Op.binOp BinOp.neq 4 (Operand.tmp 128) (Operand.tmp 129) 4, type := 4, pos := "law.go:57", after := #[{ on := 0, ground := Ground.data }, { on := 1, ground := Ground.data }], guard := none }) (v := ?v2b) rfl (by kernel_rfl) (by kernel_rfl) (fun _ _ _ h => h) hS (Or.inl ⟨by rfl, ?y2b⟩) (fun _ => ?r2b)
            case y2b => intro W hW; obtain ⟨hW0, hW1, hW2⟩ := hW; go_simp; (try with_reducible rfl)
            try simp only [Act.put, List.setIfInBounds_toArray, List.set_cons_zero, List.set_cons_succ]
            refine wpJ_take 3 (oi := { dst := some 131, op := Op.move (Operand.tmp 130), type := 4, pos := "law.go:57", after := #[{ on := 2, ground := Ground.data }], guard := none }) (v := ?v3b) rfl (by kernel_rfl) (by kernel_rfl) (fun _ _ _ h => h) hS (Or.inl ⟨by rfl, ?y3b⟩) (fun _ => ?r3b)
            case y3b => intro W hW; obtain ⟨hW0, hW1, hW2⟩ := hW; go_simp; (try with_reducible rfl)
            try simp only [Act.put, List.setIfInBounds_toArray, List.set_cons_zero, List.set_cons_succ]
            refine wpJ_take 4 (oi := { dst := some 132, op := Op.move (Operand.tmp 15), type := 4, pos := "law.go:57", after := #[{ on := 3, ground := Ground.guard }], guard := some (3, false) }) (v := ?v4b) rfl (by kernel_rfl) (by kernel_rfl) (fun _ _ _ h => h) hS (Or.inl ⟨by rfl, ?y4b⟩) (fun _ => ?r4b)
            case y4b => intro W hW; obtain ⟨hW0, hW1, hW2⟩ := hW; go_simp; (try with_reducible rfl)
            try simp only [Act.put, List.setIfInBounds_toArray, List.set_cons_zero, List.set_cons_succ]
            refine wpJ_take 5 (oi := { dst := some 133, op := Op.move (Operand.tmp 132), type := 4, pos := "law.go:57", after := #[{ on := 4, ground := Ground.data }, { on := 3, ground := Ground.chain }, { on := 3, ground := Ground.guard }], guard := some (3, false) }) (v := ?v5b) rfl (by kernel_rfl) (by kernel_rfl) (fun _ _ _ h => h) hS (Or.inl ⟨by rfl, ?y5b⟩) (fun _ => ?r5b)
            case y5b => intro W hW; obtain ⟨hW0, hW1, hW2⟩ := hW; go_simp; (try with_reducible rfl)
            try simp only [Act.put, List.setIfInBounds_toArray, List.set_cons_zero, List.set_cons_succ]
            refine wpJ_take 6 (oi := { dst := some 134, op := Op.move (Operand.tmp 13), type := 3, pos := "law.go:57", after := #[{ on := 5, ground := Ground.guard }], guard := some (5, true) }) (v := undef) rfl (by kernel_rfl) (by kernel_rfl) (fun _ _ _ h => h) hS (Or.inr ⟨by rfl, rfl⟩) (fun _ => ?_)
            try simp only [Act.put, List.setIfInBounds_toArray, List.set_cons_zero, List.set_cons_succ]
            refine wpJ_take 7 (oi := { dst := some 135, op := Op.move (Operand.tmp 6), type := 25, pos := "law.go:57", after := #[{ on := 5, ground := Ground.guard }], guard := some (5, true) }) (v := undef) rfl (by kernel_rfl) (by kernel_rfl) (fun _ _ _ h => h) hS (Or.inr ⟨by rfl, rfl⟩) (fun _ => ?_)
            try simp only [Act.put, List.setIfInBounds_toArray, List.set_cons_zero, List.set_cons_succ]
            refine wpJ_take 8 (oi := { dst := some 136, op := Op.nilCheck (Operand.tmp 135), type := 0, pos := "law.go:57", after := #[{ on := 7, ground := Ground.data }, { on := 5, ground := Ground.guard }], guard := some (5, true) }) (v := undef) rfl (by kernel_rfl) (by kernel_rfl) (fun _ _ _ h => h) hS (Or.inr ⟨by rfl, rfl⟩) (fun _ => ?_)
            try simp only [Act.put, List.setIfInBounds_toArray, List.set_cons_zero, List.set_cons_succ]
            refine wpJ_take 9 (oi := { dst := some 137, op := Op.fieldAddr 36 (Operand.tmp 136) 1, type := 0, pos := "law.go:57", after := #[{ on := 8, ground := Ground.data }, { on := 5, ground := Ground.guard }], guard := some (5, true) }) (v := undef) rfl (by kernel_rfl) (by kernel_rfl) (fun _ _ _ h => h) hS (Or.inr ⟨by rfl, rfl⟩) (fun _ => ?_)
            try simp only [Act.put, List.setIfInBounds_toArray, List.set_cons_zero, List.set_cons_succ]
            refine wpJ_take 10 (oi := { dst := some 138, op := Op.load 22 (Operand.tmp 137), type := 22, pos := "law.go:57", after := #[{ on := 9, ground := Ground.data }, { on := 5, ground := Ground.guard }], guard := some (5, true) }) (v := undef) rfl (by kernel_rfl) (by kernel_rfl) (fun _ _ _ h => h) hS (Or.inr ⟨by rfl, rfl⟩) (fun _ => ?_)
            try simp only [Act.put, List.setIfInBounds_toArray, List.set_cons_zero, List.set_cons_succ]
            refine wpJ_take 11 (oi := { dst := some 139, op := Op.move (Operand.tmp 8), type := 3, pos := "law.go:57", after := #[{ on := 5, ground := Ground.guard }], guard := some (5, true) }) (v := undef) rfl (by kernel_rfl) (by kernel_rfl) (fun _ _ _ h => h) hS (Or.inr ⟨by rfl, rfl⟩) (fun _ => ?_)
            try simp only [Act.put, List.setIfInBounds_toArray, List.set_cons_zero, List.set_cons_succ]
            refine wpJ_take 12 (oi := { dst := some 140, op := Op.indexAddr 22 (Operand.tmp 138) (Operand.tmp 139), type := 0, pos := "law.go:57", after := #[{ on := 10, ground := Ground.data }, { on := 11, ground := Ground.data }, { on := 5, ground := Ground.guard }], guard := some (5, true) }) (v := undef) rfl (by kernel_rfl) (by kernel_rfl) (fun _ _ _ h => h) hS (Or.inr ⟨by rfl, rfl⟩) (fun _ => ?_)
            try simp only [Act.put, List.setIfInBounds_toArray, List.set_cons_zero, List.set_cons_succ]
            refine wpJ_take 13 (oi := { dst := some 141, op := Op.load 3 (Operand.tmp 140), type := 3, pos := "law.go:57", after := #[{ on := 12, ground := Ground.data }, { on := 5, ground := Ground.guard }], guard := some (5, true) }) (v := undef) rfl (by kernel_rfl) (by kernel_rfl) (fun _ _ _ h => h) hS (Or.inr ⟨by rfl, rfl⟩) (fun _ => ?_)
            try simp only [Act.put, List.setIfInBounds_toArray, List.set_cons_zero, List.set_cons_succ]
            refine wpJ_take 14 (oi := { dst := some 142, op := Op.binOp BinOp.neq 3 (Operand.tmp 134) (Operand.tmp 141) 3, type := 4, pos := "law.go:57", after := #[{ on := 6, ground := Ground.data }, { on := 13, ground := Ground.data }, { on := 5, ground := Ground.guard }], guard := some (5, true) }) (v := undef) rfl (by kernel_rfl) (by kernel_rfl) (fun _ _ _ h => h) hS (Or.inr ⟨by rfl, rfl⟩) (fun _ => ?_)
            try simp only [Act.put, List.setIfInBounds_toArray, List.set_cons_zero, List.set_cons_succ]
            refine wpJ_take 15 (oi := { dst := some 143, op := Op.pick (Operand.tmp 133) (Operand.tmp 142) (Operand.const (Value.bool false)), type := 4, pos := "law.go:57", after := #[{ on := 5, ground := Ground.data }, { on := 14, ground := Ground.data }, { on := 3, ground := Ground.guard }], guard := some (3, false) }) (v := ?v15b) rfl (by kernel_rfl) (by kernel_rfl) (fun _ _ _ h => h) hS (Or.inl ⟨by rfl, ?y15b⟩) (fun _ => ?r15b)
            case y15b => intro W hW; obtain ⟨hW0, hW1, hW2⟩ := hW; go_simp; (try with_reducible rfl)
            try simp only [Act.put, List.setIfInBounds_toArray, List.set_cons_zero, List.set_cons_succ]
            refine wpJ_take 16 (oi := { dst := some 144, op := Op.pick (Operand.tmp 131) (Operand.const (Value.bool true)) (Operand.tmp 143), type := 4, pos := "law.go:57", after := #[{ on := 3, ground := Ground.data }, { on := 15, ground := Ground.data }], guard := none }) (v := ?v16b) rfl (by kernel_rfl) (by kernel_rfl) (fun _ _ _ h => h) hS (Or.inl ⟨by rfl, ?y16b⟩) (fun _ => ?r16b)
            case y16b => intro W hW; obtain ⟨hW0, hW1, hW2⟩ := hW; go_simp; (try with_reducible rfl)
            try simp only [Act.put, List.setIfInBounds_toArray, List.set_cons_zero, List.set_cons_succ]
            refine wpJ_take 17 (oi := { dst := some 145, op := Op.move (Operand.tmp 144), type := 4, pos := "law.go:57", after := #[{ on := 16, ground := Ground.data }, { on := 5, ground := Ground.chain }], guard := none }) (v := ?v17b) rfl (by kernel_rfl) (by kernel_rfl) (fun _ _ _ h => h) hS (Or.inl ⟨by rfl, ?y17b⟩) (fun _ => ?r17b)
            case y17b => intro W hW; obtain ⟨hW0, hW1, hW2⟩ := hW; go_simp; (try with_reducible rfl)
            try simp only [Act.put, List.setIfInBounds_toArray, List.set_cons_zero, List.set_cons_succ]
            refine wpJ_take 18 (oi := { dst := some 146, op := Op.move (Operand.tmp 15), type := 4, pos := "law.go:57", after := #[{ on := 17, ground := Ground.guard }], guard := some (17, false) }) (v := ?v18b) rfl (by kernel_rfl) (by kernel_rfl) (fun _ _ _ h => h) hS (Or.inl ⟨by rfl, ?y18b⟩) (fun _ => ?r18b)
            case y18b => intro W hW; obtain ⟨hW0, hW1, hW2⟩ := hW; go_simp; (try with_reducible rfl)
            try simp only [Act.put, List.setIfInBounds_toArray, List.set_cons_zero, List.set_cons_succ]
            refine wpJ_take 19 (oi := { dst := some 147, op := Op.unOp UnOp.not 4 (Operand.tmp 146), type := 4, pos := "law.go:57", after := #[{ on := 18, ground := Ground.data }, { on := 17, ground := Ground.guard }], guard := some (17, false) }) (v := ?v19b) rfl (by kernel_rfl) (by kernel_rfl) (fun _ _ _ h => h) hS (Or.inl ⟨by rfl, ?y19b⟩) (fun _ => ?r19b)
            case y19b => intro W hW; obtain ⟨hW0, hW1, hW2⟩ := hW; go_simp; (try with_reducible rfl)
            try simp only [Act.put, List.setIfInBounds_toArray, List.set_cons_zero, List.set_cons_succ]
            refine wpJ_take 20 (oi := { dst := some 148, op := Op.move (Operand.tmp 147), type := 4, pos := "law.go:57", after := #[{ on := 19, ground := Ground.data }, { on := 17, ground := Ground.chain }, { on := 17, ground := Ground.guard }], guard := some (17, false) }) (v := ?v20b) rfl (by kernel_rfl) (by kernel_rfl) (fun _ _ _ h => h) hS (Or.inl ⟨by rfl, ?y20b⟩) (fun _ => ?r20b)
            case y20b => intro W hW; obtain ⟨hW0, hW1, hW2⟩ := hW; go_simp; (try with_reducible rfl)
            try simp only [Act.put, List.setIfInBounds_toArray, List.set_cons_zero, List.set_cons_succ]
            refine wpJ_take 21 (oi := { dst := some 149, op := Op.move (Operand.tmp 13), type := 3, pos := "law.go:57", after := #[{ on := 20, ground := Ground.guard }], guard := some (20, true) }) (v := ?v21b) rfl (by kernel_rfl) (by kernel_rfl) (fun _ _ _ h => h) hS (Or.inl ⟨by rfl, ?y21b⟩) (fun _ => ?r21b)
            case y21b => intro W hW; obtain ⟨hW0, hW1, hW2⟩ := hW; go_simp; (try with_reducible rfl)
            try simp only [Act.put, List.setIfInBounds_toArray, List.set_cons_zero, List.set_cons_succ]
            refine wpJ_take 22 (oi := { dst := some 150, op := Op.binOp BinOp.neq 3 (Operand.tmp 149) (Operand.const (Value.int IntKind.i64 0)) 3, type := 4, pos := "law.go:57", after := #[{ on := 21, ground := Ground.data }, { on := 20, ground := Ground.guard }], guard := some (20, true) }) (v := ?v22b) rfl (by kernel_rfl) (by kernel_rfl) (fun _ _ _ h => h) hS (Or.inl ⟨by rfl, ?y22b⟩) (fun _ => ?r22b)
            case y22b => intro W hW; obtain ⟨hW0, hW1, hW2⟩ := hW; go_simp; (try with_reducible rfl)
            try simp only [Act.put, List.setIfInBounds_toArray, List.set_cons_zero, List.set_cons_succ]
            refine wpJ_take 23 (oi := { dst := some 151, op := Op.pick (Operand.tmp 148) (Operand.tmp 150) (Operand.const (Value.bool false)), type := 4, pos := "law.go:57", after := #[{ on := 20, ground := Ground.data }, { on := 22, ground := Ground.data }, { on := 17, ground := Ground.guard }], guard := some (17, false) }) (v := ?v23b) rfl (by kernel_rfl) (by kernel_rfl) (fun _ _ _ h => h) hS (Or.inl ⟨by rfl, ?y23b⟩) (fun _ => ?r23b)
            case y23b => intro W hW; obtain ⟨hW0, hW1, hW2⟩ := hW; go_simp; (try with_reducible rfl)
            try simp only [Act.put, List.setIfInBounds_toArray, List.set_cons_zero, List.set_cons_succ]
            refine wpJ_take 24 (oi := { dst := some 152, op := Op.pick (Operand.tmp 145) (Operand.const (Value.bool true)) (Operand.tmp 151), type := 4, pos := "law.go:57", after := #[{ on := 17, ground := Ground.data }, { on := 23, ground := Ground.data }], guard := none }) (v := ?v24b) rfl (by kernel_rfl) (by kernel_rfl) (fun _ _ _ h => h) hS (Or.inl ⟨by rfl, ?y24b⟩) (fun _ => ?r24b)
            case y24b => intro W hW; obtain ⟨hW0, hW1, hW2⟩ := hW; go_simp; (try with_reducible rfl)
            try simp only [Act.put, List.setIfInBounds_toArray, List.set_cons_zero, List.set_cons_succ]
            refine wpJ_take 25 (oi := { dst := some 153, op := Op.move (Operand.tmp 152), type := 4, pos := "law.go:57", after := #[{ on := 24, ground := Ground.data }, { on := 20, ground := Ground.chain }], guard := none }) (v := ?v25b) rfl (by kernel_rfl) (by kernel_rfl) (fun _ _ _ h => h) hS (Or.inl ⟨by rfl, ?y25b⟩) (fun _ => ?r25b)
            case y25b => intro W hW; obtain ⟨hW0, hW1, hW2⟩ := hW; go_simp; (try with_reducible rfl)
            try simp only [Act.put, List.setIfInBounds_toArray, List.set_cons_zero, List.set_cons_succ]
            refine wpJ_take 26 (oi := { dst := some 154, op := Op.move (Operand.tmp 5), type := 23, pos := "law.go:57", after := #[{ on := 25, ground := Ground.guard }], guard := some (25, false) }) (v := ?v26b) rfl (by kernel_rfl) (by kernel_rfl) (fun _ _ _ h => h) hS (Or.inl ⟨by rfl, ?y26b⟩) (fun _ => ?r26b)
            case y26b => intro W hW; obtain ⟨hW0, hW1, hW2⟩ := hW; go_simp; (try with_reducible rfl)
            try simp only [Act.put, List.setIfInBounds_toArray, List.set_cons_zero, List.set_cons_succ]
            refine wpJ_take 28 (oi := { dst := some 156, op := Op.move (Operand.tmp 6), type := 25, pos := "law.go:57", after := #[{ on := 25, ground := Ground.guard }], guard := some (25, false) }) (v := ?v28b) rfl (by kernel_rfl) (by kernel_rfl) (fun _ _ _ h => h) hS (Or.inl ⟨by rfl, ?y28b⟩) (fun _ => ?r28b)
            case y28b => intro W hW; obtain ⟨hW0, hW1, hW2⟩ := hW; go_simp; (try with_reducible rfl)
            try simp only [Act.put, List.setIfInBounds_toArray, List.set_cons_zero, List.set_cons_succ]
            refine wpJ_take 29 (oi := { dst := some 157, op := Op.nilCheck (Operand.tmp 156), type := 0, pos := "law.go:57", after := #[{ on := 28, ground := Ground.data }, { on := 25, ground := Ground.guard }], guard := some (25, false) }) (v := ?v29b) rfl (by kernel_rfl) (by kernel_rfl) (fun _ _ _ h => h) hS (Or.inl ⟨by rfl, ?y29b⟩) (fun _ => ?r29b)
            case y29b => intro W hW; obtain ⟨hW0, hW1, hW2⟩ := hW; go_simp; (try with_reducible rfl)
            try simp only [Act.put, List.setIfInBounds_toArray, List.set_cons_zero, List.set_cons_succ]
            refine wpJ_take 30 (oi := { dst := some 158, op := Op.fieldAddr 36 (Operand.tmp 157) 0, type := 0, pos := "law.go:57", after := #[{ on := 29, ground := Ground.data }, { on := 25, ground := Ground.guard }], guard := some (25, false) }) (v := ?v30b) rfl (by kernel_rfl) (by kernel_rfl) (fun _ _ _ h => h) hS (Or.inl ⟨by rfl, ?y30b⟩) (fun _ => ?r30b)
            case y30b => intro W hW; obtain ⟨hW0, hW1, hW2⟩ := hW; go_simp; (try with_reducible rfl)
            try simp only [Act.put, List.setIfInBounds_toArray, List.set_cons_zero, List.set_cons_succ]
            refine wpJ_take 31 (oi := { dst := some 159, op := Op.load 3 (Operand.tmp 158), type := 3, pos := "law.go:57", after := #[{ on := 30, ground := Ground.data }, { on := 25, ground := Ground.guard }], guard := some (25, false) }) (v := ?v31b) rfl (by kernel_rfl) (by kernel_rfl) (fun _ _ _ h => h) hS (Or.inl ⟨by rfl, ?y31b⟩) (fun _ => ?r31b)
            case y31b => intro W hW; obtain ⟨hW0, hW1, hW2⟩ := hW; go_simp; (try with_reducible rfl)
            try simp only [Act.put, List.setIfInBounds_toArray, List.set_cons_zero, List.set_cons_succ]
            refine wpJ_one 27 (oi := { dst := some 155, op := Op.call { callee := Callee.value (Operand.func 16), args := #[Operand.tmp 154], argTypes := #[23] }, type := 3, pos := "law.go:57", after := #[{ on := 26, ground := Ground.data }, { on := 25, ground := Ground.chain }, { on := 25, ground := Ground.guard }], guard := some (25, false) }) rfl (by kernel_rfl) ?_
            intro K hK
            go_simp
            go_at_call 16
            refine (now_ (by exact h1.ext (G := fun _ => False) (by repeat' (first | exact Ext.refl _ _ | assumption | apply Ext.alloc | apply Ext.drewN | apply Ext.drew)) (fun _ _ x => x))).mono ?_
            rintro e wN ⟨rfl, rfl⟩
            refine hK _ _ (fun _ => hS) ?_
            clear hK K
            try simp only [Act.put, List.setIfInBounds_toArray, List.set_cons_zero, List.set_cons_succ]
            refine wpJ_take 32 (oi := { dst := some 160, op := Op.binOp BinOp.neq 3 (Operand.tmp 155) (Operand.tmp 159) 3, type := 4, pos := "law.go:57", after := #[{ on := 27, ground := Ground.data }, { on := 31, ground := Ground.data }, { on := 25, ground := Ground.guard }], guard := some (25, false) }) (v := ?v32b) rfl (by kernel_rfl) (by kernel_rfl) (fun _ _ _ h => h) hS (Or.inl ⟨by rfl, ?y32b⟩) (fun _ => ?r32b)
            case y32b => intro W hW; obtain ⟨hW0, hW1, hW2⟩ := hW; go_simp; (try with_reducible rfl)
            try simp only [Act.put, List.setIfInBounds_toArray, List.set_cons_zero, List.set_cons_succ]
            refine wpJ_take 33 (oi := { dst := some 161, op := Op.pick (Operand.tmp 153) (Operand.const (Value.bool true)) (Operand.tmp 160), type := 4, pos := "law.go:57", after := #[{ on := 25, ground := Ground.data }, { on := 32, ground := Ground.data }], guard := none }) (v := ?v33b) rfl (by kernel_rfl) (by kernel_rfl) (fun _ _ _ h => h) hS (Or.inl ⟨by rfl, ?y33b⟩) (fun _ => ?r33b)
            case y33b => intro W hW; obtain ⟨hW0, hW1, hW2⟩ := hW; go_simp; (try with_reducible rfl)
            try simp only [Act.put, List.setIfInBounds_toArray, List.set_cons_zero, List.set_cons_succ]
            refine wpJ_take 34 (oi := { dst := some 162, op := Op.move (Operand.tmp 161), type := 4, pos := "law.go:57", after := #[{ on := 33, ground := Ground.data }, { on := 27, ground := Ground.chain }], guard := none }) (v := ?v34b) rfl (by kernel_rfl) (by kernel_rfl) (fun _ _ _ h => h) hS (Or.inl ⟨by rfl, ?y34b⟩) (fun _ => ?r34b)
            case y34b => intro W hW; obtain ⟨hW0, hW1, hW2⟩ := hW; go_simp; (try with_reducible rfl)
            try simp only [Act.put, List.setIfInBounds_toArray, List.set_cons_zero, List.set_cons_succ]
            refine wpJ_take 35 (oi := { dst := some 163, op := Op.move (Operand.tmp 5), type := 23, pos := "law.go:57", after := #[{ on := 34, ground := Ground.guard }], guard := some (34, false) }) (v := ?v35b) rfl (by kernel_rfl) (by kernel_rfl) (fun _ _ _ h => h) hS (Or.inl ⟨by rfl, ?y35b⟩) (fun _ => ?r35b)
            case y35b => intro W hW; obtain ⟨hW0, hW1, hW2⟩ := hW; go_simp; (try with_reducible rfl)
            try simp only [Act.put, List.setIfInBounds_toArray, List.set_cons_zero, List.set_cons_succ]
            refine wpJ_take 37 (oi := { dst := some 165, op := Op.move (Operand.tmp 6), type := 25, pos := "law.go:57", after := #[{ on := 34, ground := Ground.guard }], guard := some (34, false) }) (v := ?v37b) rfl (by kernel_rfl) (by kernel_rfl) (fun _ _ _ h => h) hS (Or.inl ⟨by rfl, ?y37b⟩) (fun _ => ?r37b)
            case y37b => intro W hW; obtain ⟨hW0, hW1, hW2⟩ := hW; go_simp; (try with_reducible rfl)
            try simp only [Act.put, List.setIfInBounds_toArray, List.set_cons_zero, List.set_cons_succ]
            refine wpJ_take 38 (oi := { dst := some 166, op := Op.nilCheck (Operand.tmp 165), type := 0, pos := "law.go:57", after := #[{ on := 37, ground := Ground.data }, { on := 34, ground := Ground.guard }], guard := some (34, false) }) (v := ?v38b) rfl (by kernel_rfl) (by kernel_rfl) (fun _ _ _ h => h) hS (Or.inl ⟨by rfl, ?y38b⟩) (fun _ => ?r38b)
            case y38b => intro W hW; obtain ⟨hW0, hW1, hW2⟩ := hW; go_simp; (try with_reducible rfl)
            try simp only [Act.put, List.setIfInBounds_toArray, List.set_cons_zero, List.set_cons_succ]
            refine wpJ_take 39 (oi := { dst := some 167, op := Op.fieldAddr 36 (Operand.tmp 166) 2, type := 0, pos := "law.go:57", after := #[{ on := 38, ground := Ground.data }, { on := 34, ground := Ground.guard }], guard := some (34, false) }) (v := ?v39b) rfl (by kernel_rfl) (by kernel_rfl) (fun _ _ _ h => h) hS (Or.inl ⟨by rfl, ?y39b⟩) (fun _ => ?r39b)
            case y39b => intro W hW; obtain ⟨hW0, hW1, hW2⟩ := hW; go_simp; (try with_reducible rfl)
            try simp only [Act.put, List.setIfInBounds_toArray, List.set_cons_zero, List.set_cons_succ]
            refine wpJ_take 40 (oi := { dst := some 168, op := Op.load 22 (Operand.tmp 167), type := 22, pos := "law.go:57", after := #[{ on := 39, ground := Ground.data }, { on := 34, ground := Ground.guard }], guard := some (34, false) }) (v := ?v40b) rfl (by kernel_rfl) (by kernel_rfl) (fun _ _ _ h => h) hS (Or.inl ⟨by rfl, ?y40b⟩) (fun _ => ?r40b)
            case y40b => intro W hW; obtain ⟨hW0, hW1, hW2⟩ := hW; go_simp; (try with_reducible rfl)
            try simp only [Act.put, List.setIfInBounds_toArray, List.set_cons_zero, List.set_cons_succ]
            refine wpJ_one 36 (oi := { dst := some 164, op := Op.call { callee := Callee.value (Operand.func 17), args := #[Operand.tmp 163], argTypes := #[23] }, type := 22, pos := "law.go:57", after := #[{ on := 35, ground := Ground.data }, { on := 34, ground := Ground.chain }, { on := 34, ground := Ground.guard }], guard := some (34, false) }) rfl (by kernel_rfl) ?_
            intro K hK
            go_simp
            go_at_call 17
            refine (waiting_ (by exact h1.ext (G := fun _ => False) (by repeat' (first | exact Ext.refl _ _ | assumption | apply Ext.alloc | apply Ext.drewN | apply Ext.drew)) (fun _ _ x => x)) (by omega)).mono ?_
            rintro e wW ⟨v, rfl, oV, _, XW⟩
            have XW' : Ext (fun _ => False) wc wW := Ext.trans (by repeat' (first | exact Ext.refl _ _ | apply Ext.alloc | apply Ext.drewN | apply Ext.drew)) XW
            have h2W := h2.ext XW' (fun _ _ x => x)
            have hSW : wW.cell? ⟨g2, 0, none⟩ = some (.int .i64 n') ∧ wW.cell? ⟨g2, 1, none⟩ = some (.slice bp ps'.length dp) ∧ wW.cell? ⟨g2, 2, none⟩ = some (.slice bl l'.length dl) := ⟨h2W.row.cell 0, h2W.row.cell 1, h2W.row.cell 2⟩
            refine hK _ _ (fun _ => hSW) ?_
            clear hK K
            try simp only [Act.put, List.setIfInBounds_toArray, List.set_cons_zero, List.set_cons_succ]
            refine wpJ_one 41 (oi := { dst := some 169, op := Op.call { callee := Callee.value (Operand.func 14), args := #[Operand.tmp 164, Operand.tmp 168], argTypes := #[22, 22] }, type := 4, pos := "law.go:57", after := #[{ on := 36, ground := Ground.data }, { on := 40, ground := Ground.data }, { on := 36, ground := Ground.chain }, { on := 34, ground := Ground.guard }], guard := some (34, false) }) rfl (by kernel_rfl) ?_
            intro K hK
            go_simp
            go_at_call 14
            refine (sameInts_ (xs := l'.map (·.1)) (ys := l'.map (·.1)) (by rw [List.length_map]; exact own_ext oV (F := fun _ => False) (by repeat' (first | exact Ext.refl _ _ | assumption | apply Ext.alloc | apply Ext.drewN | apply Ext.drew)) (fun _ _ x => x)) (by rw [List.length_map]; exact own_ext h2W.wait (F := fun _ => False) (by repeat' (first | exact Ext.refl _ _ | assumption | apply Ext.alloc | apply Ext.drewN | apply Ext.drew)) (fun _ _ x => x)) (by simp; omega) (by simp; omega) true (by simp)).mono ?_
            rintro e wS ⟨rfl, dS⟩
            have XS : Ext (fun _ => False) wc wS := XW'.trans (Ext.trans (by repeat' (first | exact Ext.refl _ _ | apply Ext.alloc | apply Ext.drewN | apply Ext.drew)) (dS.ext _))
            have h2S := h2.ext XS (fun _ _ x => x)
            have hSS : wS.cell? ⟨g2, 0, none⟩ = some (.int .i64 n') ∧ wS.cell? ⟨g2, 1, none⟩ = some (.slice bp ps'.length dp) ∧ wS.cell? ⟨g2, 2, none⟩ = some (.slice bl l'.length dl) := ⟨h2S.row.cell 0, h2S.row.cell 1, h2S.row.cell 2⟩
            refine hK _ _ (fun _ => hSS) ?_
            clear hK K
            try simp only [Act.put, List.setIfInBounds_toArray, List.set_cons_zero, List.set_cons_succ]
            refine wpJ_take 42 (oi := { dst := some 170, op := Op.unOp UnOp.not 4 (Operand.tmp 169), type := 4, pos := "law.go:57", after := #[{ on := 41, ground := Ground.data }, { on := 34, ground := Ground.guard }], guard := some (34, false) }) (v := ?v42b) rfl (by kernel_rfl) (by kernel_rfl) (fun _ _ _ h => h) hSS (Or.inl ⟨by rfl, ?y42b⟩) (fun _ => ?r42b)
            case y42b => intro W hW; obtain ⟨hW0, hW1, hW2⟩ := hW; go_simp; (try with_reducible rfl)
            try simp only [Act.put, List.setIfInBounds_toArray, List.set_cons_zero, List.set_cons_succ]
            refine wpJ_take 43 (oi := { dst := some 171, op := Op.pick (Operand.tmp 162) (Operand.const (Value.bool true)) (Operand.tmp 170), type := 4, pos := "law.go:57", after := #[{ on := 34, ground := Ground.data }, { on := 42, ground := Ground.data }], guard := none }) (v := ?v43b) rfl (by kernel_rfl) (by kernel_rfl) (fun _ _ _ h => h) hSS (Or.inl ⟨by rfl, ?y43b⟩) (fun _ => ?r43b)
            case y43b => intro W hW; obtain ⟨hW0, hW1, hW2⟩ := hW; go_simp; (try with_reducible rfl)
            try simp only [Act.put, List.setIfInBounds_toArray, List.set_cons_zero, List.set_cons_succ]
            refine wpJ_done _ (by kernel_rfl) ?_
            go_wp2_with fail
            go_roundw
            case rel => exact ⟨k + 1, by omega, by omega, by go_num, n', pins', l', inv_ext hJ.out XS⟩
            case measure => simp [intOf]; omega
          · have hhi' : (ps'.length : Int) ≤ tt := by rw [hps, List.length_map]; exact hhi
            have d0 : decide (0 ≤ tt) = true := decide_eq_true (by omega)
            have d1 : decide (tt < (ps'.length : Int)) = false := decide_eq_false (by omega)
            replace hps := Lib.hid hps
            clear hhi
            as_aux_lemma =>
            go_wp2_with (go_at_call 15; refine (pinned_ h1 hp _ _ _ hok.out).mono ?_; rintro e wP ⟨rfl, rfl⟩)
            refine wp_region_any (by kernel_rfl) ?_
            change wpAny _ _ _ _ _ _ _ (World.drew _)
            refine wpAny_of_J (S := fun w' => w'.cell? ⟨g2, 0, none⟩ = some (.int .i64 n') ∧ w'.cell? ⟨g2, 1, none⟩ = some (.slice bp ps'.length dp) ∧ w'.cell? ⟨g2, 2, none⟩ = some (.slice bl l'.length dl)) (J := fun _ => true) _ _ _ _ ?_
            refine wpJ_take 0 (oi := { dst := some 128, op := Op.move (Operand.tmp 14), type := 4, pos := "law.go:57", after := #[], guard := none }) (v := ?v0c) rfl (by kernel_rfl) (by kernel_rfl) (fun _ _ _ h => h) hS (Or.inl ⟨by rfl, ?y0c⟩) (fun _ => ?r0c)
            case y0c => intro W hW; obtain ⟨hW0, hW1, hW2⟩ := hW; go_simp; (try with_reducible rfl)
            try simp only [Act.put, List.setIfInBounds_toArray, List.set_cons_zero, List.set_cons_succ]
            refine wpJ_take 1 (oi := { dst := some 129, op := Op.move (Operand.tmp 15), type := 4, pos := "law.go:57", after := #[], guard := none }) (v := ?v1c) rfl (by kernel_rfl) (by kernel_rfl) (fun _ _ _ h => h) hS (Or.inl ⟨by rfl, ?y1c⟩) (fun _ => ?r1c)
            case y1c => intro W hW; obtain ⟨hW0, hW1, hW2⟩ := hW; go_simp; (try with_reducible rfl)
            try simp only [Act.put, List.setIfInBounds_toArray, List.set_cons_zero, List.set_cons_succ]
            refine wpJ_take 2 (oi := { dst := some 130, op := Op.binOp BinOp.neq 4 (Operand.tmp 128) (Operand.tmp 129) 4, type := 4, pos := "law.go:57", after := #[{ on := 0, ground := Ground.data }, { on := 1, ground := Ground.data }], guard := none }) (v := ?v2c) rfl (by kernel_rfl) (by kernel_rfl) (fun _ _ _ h => h) hS (Or.inl ⟨by rfl, ?y2c⟩) (fun _ => ?r2c)
            case y2c => intro W hW; obtain ⟨hW0, hW1, hW2⟩ := hW; go_simp; (try with_reducible rfl)
            try simp only [Act.put, List.setIfInBounds_toArray, List.set_cons_zero, List.set_cons_succ]
            refine wpJ_take 3 (oi := { dst := some 131, op := Op.move (Operand.tmp 130), type := 4, pos := "law.go:57", after := #[{ on := 2, ground := Ground.data }], guard := none }) (v := ?v3c) rfl (by kernel_rfl) (by kernel_rfl) (fun _ _ _ h => h) hS (Or.inl ⟨by rfl, ?y3c⟩) (fun _ => ?r3c)
            case y3c => intro W hW; obtain ⟨hW0, hW1, hW2⟩ := hW; go_simp; (try with_reducible rfl)
            try simp only [Act.put, List.setIfInBounds_toArray, List.set_cons_zero, List.set_cons_succ]
            refine wpJ_take 4 (oi := { dst := some 132, op := Op.move (Operand.tmp 15), type := 4, pos := "law.go:57", after := #[{ on := 3, ground := Ground.guard }], guard := some (3, false) }) (v := ?v4c) rfl (by kernel_rfl) (by kernel_rfl) (fun _ _ _ h => h) hS (Or.inl ⟨by rfl, ?y4c⟩) (fun _ => ?r4c)
            case y4c => intro W hW; obtain ⟨hW0, hW1, hW2⟩ := hW; go_simp; (try with_reducible rfl)
            try simp only [Act.put, List.setIfInBounds_toArray, List.set_cons_zero, List.set_cons_succ]
            refine wpJ_take 5 (oi := { dst := some 133, op := Op.move (Operand.tmp 132), type := 4, pos := "law.go:57", after := #[{ on := 4, ground := Ground.data }, { on := 3, ground := Ground.chain }, { on := 3, ground := Ground.guard }], guard := some (3, false) }) (v := ?v5c) rfl (by kernel_rfl) (by kernel_rfl) (fun _ _ _ h => h) hS (Or.inl ⟨by rfl, ?y5c⟩) (fun _ => ?r5c)
            case y5c => intro W hW; obtain ⟨hW0, hW1, hW2⟩ := hW; go_simp; (try with_reducible rfl)
            try simp only [Act.put, List.setIfInBounds_toArray, List.set_cons_zero, List.set_cons_succ]
            refine wpJ_take 6 (oi := { dst := some 134, op := Op.move (Operand.tmp 13), type := 3, pos := "law.go:57", after := #[{ on := 5, ground := Ground.guard }], guard := some (5, true) }) (v := undef) rfl (by kernel_rfl) (by kernel_rfl) (fun _ _ _ h => h) hS (Or.inr ⟨by rfl, rfl⟩) (fun _ => ?_)
            try simp only [Act.put, List.setIfInBounds_toArray, List.set_cons_zero, List.set_cons_succ]
            refine wpJ_take 7 (oi := { dst := some 135, op := Op.move (Operand.tmp 6), type := 25, pos := "law.go:57", after := #[{ on := 5, ground := Ground.guard }], guard := some (5, true) }) (v := undef) rfl (by kernel_rfl) (by kernel_rfl) (fun _ _ _ h => h) hS (Or.inr ⟨by rfl, rfl⟩) (fun _ => ?_)
            try simp only [Act.put, List.setIfInBounds_toArray, List.set_cons_zero, List.set_cons_succ]
            refine wpJ_take 8 (oi := { dst := some 136, op := Op.nilCheck (Operand.tmp 135), type := 0, pos := "law.go:57", after := #[{ on := 7, ground := Ground.data }, { on := 5, ground := Ground.guard }], guard := some (5, true) }) (v := undef) rfl (by kernel_rfl) (by kernel_rfl) (fun _ _ _ h => h) hS (Or.inr ⟨by rfl, rfl⟩) (fun _ => ?_)
            try simp only [Act.put, List.setIfInBounds_toArray, List.set_cons_zero, List.set_cons_succ]
            refine wpJ_take 9 (oi := { dst := some 137, op := Op.fieldAddr 36 (Operand.tmp 136) 1, type := 0, pos := "law.go:57", after := #[{ on := 8, ground := Ground.data }, { on := 5, ground := Ground.guard }], guard := some (5, true) }) (v := undef) rfl (by kernel_rfl) (by kernel_rfl) (fun _ _ _ h => h) hS (Or.inr ⟨by rfl, rfl⟩) (fun _ => ?_)
            try simp only [Act.put, List.setIfInBounds_toArray, List.set_cons_zero, List.set_cons_succ]
            refine wpJ_take 10 (oi := { dst := some 138, op := Op.load 22 (Operand.tmp 137), type := 22, pos := "law.go:57", after := #[{ on := 9, ground := Ground.data }, { on := 5, ground := Ground.guard }], guard := some (5, true) }) (v := undef) rfl (by kernel_rfl) (by kernel_rfl) (fun _ _ _ h => h) hS (Or.inr ⟨by rfl, rfl⟩) (fun _ => ?_)
            try simp only [Act.put, List.setIfInBounds_toArray, List.set_cons_zero, List.set_cons_succ]
            refine wpJ_take 11 (oi := { dst := some 139, op := Op.move (Operand.tmp 8), type := 3, pos := "law.go:57", after := #[{ on := 5, ground := Ground.guard }], guard := some (5, true) }) (v := undef) rfl (by kernel_rfl) (by kernel_rfl) (fun _ _ _ h => h) hS (Or.inr ⟨by rfl, rfl⟩) (fun _ => ?_)
            try simp only [Act.put, List.setIfInBounds_toArray, List.set_cons_zero, List.set_cons_succ]
            refine wpJ_take 12 (oi := { dst := some 140, op := Op.indexAddr 22 (Operand.tmp 138) (Operand.tmp 139), type := 0, pos := "law.go:57", after := #[{ on := 10, ground := Ground.data }, { on := 11, ground := Ground.data }, { on := 5, ground := Ground.guard }], guard := some (5, true) }) (v := undef) rfl (by kernel_rfl) (by kernel_rfl) (fun _ _ _ h => h) hS (Or.inr ⟨by rfl, rfl⟩) (fun _ => ?_)
            try simp only [Act.put, List.setIfInBounds_toArray, List.set_cons_zero, List.set_cons_succ]
            refine wpJ_take 13 (oi := { dst := some 141, op := Op.load 3 (Operand.tmp 140), type := 3, pos := "law.go:57", after := #[{ on := 12, ground := Ground.data }, { on := 5, ground := Ground.guard }], guard := some (5, true) }) (v := undef) rfl (by kernel_rfl) (by kernel_rfl) (fun _ _ _ h => h) hS (Or.inr ⟨by rfl, rfl⟩) (fun _ => ?_)
            try simp only [Act.put, List.setIfInBounds_toArray, List.set_cons_zero, List.set_cons_succ]
            refine wpJ_take 14 (oi := { dst := some 142, op := Op.binOp BinOp.neq 3 (Operand.tmp 134) (Operand.tmp 141) 3, type := 4, pos := "law.go:57", after := #[{ on := 6, ground := Ground.data }, { on := 13, ground := Ground.data }, { on := 5, ground := Ground.guard }], guard := some (5, true) }) (v := undef) rfl (by kernel_rfl) (by kernel_rfl) (fun _ _ _ h => h) hS (Or.inr ⟨by rfl, rfl⟩) (fun _ => ?_)
            try simp only [Act.put, List.setIfInBounds_toArray, List.set_cons_zero, List.set_cons_succ]
            refine wpJ_take 15 (oi := { dst := some 143, op := Op.pick (Operand.tmp 133) (Operand.tmp 142) (Operand.const (Value.bool false)), type := 4, pos := "law.go:57", after := #[{ on := 5, ground := Ground.data }, { on := 14, ground := Ground.data }, { on := 3, ground := Ground.guard }], guard := some (3, false) }) (v := ?v15c) rfl (by kernel_rfl) (by kernel_rfl) (fun _ _ _ h => h) hS (Or.inl ⟨by rfl, ?y15c⟩) (fun _ => ?r15c)
            case y15c => intro W hW; obtain ⟨hW0, hW1, hW2⟩ := hW; go_simp; (try with_reducible rfl)
            try simp only [Act.put, List.setIfInBounds_toArray, List.set_cons_zero, List.set_cons_succ]
            refine wpJ_take 16 (oi := { dst := some 144, op := Op.pick (Operand.tmp 131) (Operand.const (Value.bool true)) (Operand.tmp 143), type := 4, pos := "law.go:57", after := #[{ on := 3, ground := Ground.data }, { on := 15, ground := Ground.data }], guard := none }) (v := ?v16c) rfl (by kernel_rfl) (by kernel_rfl) (fun _ _ _ h => h) hS (Or.inl ⟨by rfl, ?y16c⟩) (fun _ => ?r16c)
            case y16c => intro W hW; obtain ⟨hW0, hW1, hW2⟩ := hW; go_simp; (try with_reducible rfl)
            try simp only [Act.put, List.setIfInBounds_toArray, List.set_cons_zero, List.set_cons_succ]
            refine wpJ_take 17 (oi := { dst := some 145, op := Op.move (Operand.tmp 144), type := 4, pos := "law.go:57", after := #[{ on := 16, ground := Ground.data }, { on := 5, ground := Ground.chain }], guard := none }) (v := ?v17c) rfl (by kernel_rfl) (by kernel_rfl) (fun _ _ _ h => h) hS (Or.inl ⟨by rfl, ?y17c⟩) (fun _ => ?r17c)
            case y17c => intro W hW; obtain ⟨hW0, hW1, hW2⟩ := hW; go_simp; (try with_reducible rfl)
            try simp only [Act.put, List.setIfInBounds_toArray, List.set_cons_zero, List.set_cons_succ]
            refine wpJ_take 18 (oi := { dst := some 146, op := Op.move (Operand.tmp 15), type := 4, pos := "law.go:57", after := #[{ on := 17, ground := Ground.guard }], guard := some (17, false) }) (v := ?v18c) rfl (by kernel_rfl) (by kernel_rfl) (fun _ _ _ h => h) hS (Or.inl ⟨by rfl, ?y18c⟩) (fun _ => ?r18c)
            case y18c => intro W hW; obtain ⟨hW0, hW1, hW2⟩ := hW; go_simp; (try with_reducible rfl)
            try simp only [Act.put, List.setIfInBounds_toArray, List.set_cons_zero, List.set_cons_succ]
            refine wpJ_take 19 (oi := { dst := some 147, op := Op.unOp UnOp.not 4 (Operand.tmp 146), type := 4, pos := "law.go:57", after := #[{ on := 18, ground := Ground.data }, { on := 17, ground := Ground.guard }], guard := some (17, false) }) (v := ?v19c) rfl (by kernel_rfl) (by kernel_rfl) (fun _ _ _ h => h) hS (Or.inl ⟨by rfl, ?y19c⟩) (fun _ => ?r19c)
            case y19c => intro W hW; obtain ⟨hW0, hW1, hW2⟩ := hW; go_simp; (try with_reducible rfl)
            try simp only [Act.put, List.setIfInBounds_toArray, List.set_cons_zero, List.set_cons_succ]
            refine wpJ_take 20 (oi := { dst := some 148, op := Op.move (Operand.tmp 147), type := 4, pos := "law.go:57", after := #[{ on := 19, ground := Ground.data }, { on := 17, ground := Ground.chain }, { on := 17, ground := Ground.guard }], guard := some (17, false) }) (v := ?v20c) rfl (by kernel_rfl) (by kernel_rfl) (fun _ _ _ h => h) hS (Or.inl ⟨by rfl, ?y20c⟩) (fun _ => ?r20c)
            case y20c => intro W hW; obtain ⟨hW0, hW1, hW2⟩ := hW; go_simp; (try with_reducible rfl)
            try simp only [Act.put, List.setIfInBounds_toArray, List.set_cons_zero, List.set_cons_succ]
            refine wpJ_take 21 (oi := { dst := some 149, op := Op.move (Operand.tmp 13), type := 3, pos := "law.go:57", after := #[{ on := 20, ground := Ground.guard }], guard := some (20, true) }) (v := ?v21c) rfl (by kernel_rfl) (by kernel_rfl) (fun _ _ _ h => h) hS (Or.inl ⟨by rfl, ?y21c⟩) (fun _ => ?r21c)
            case y21c => intro W hW; obtain ⟨hW0, hW1, hW2⟩ := hW; go_simp; (try with_reducible rfl)
            try simp only [Act.put, List.setIfInBounds_toArray, List.set_cons_zero, List.set_cons_succ]
            refine wpJ_take 22 (oi := { dst := some 150, op := Op.binOp BinOp.neq 3 (Operand.tmp 149) (Operand.const (Value.int IntKind.i64 0)) 3, type := 4, pos := "law.go:57", after := #[{ on := 21, ground := Ground.data }, { on := 20, ground := Ground.guard }], guard := some (20, true) }) (v := ?v22c) rfl (by kernel_rfl) (by kernel_rfl) (fun _ _ _ h => h) hS (Or.inl ⟨by rfl, ?y22c⟩) (fun _ => ?r22c)
            case y22c => intro W hW; obtain ⟨hW0, hW1, hW2⟩ := hW; go_simp; (try with_reducible rfl)
            try simp only [Act.put, List.setIfInBounds_toArray, List.set_cons_zero, List.set_cons_succ]
            refine wpJ_take 23 (oi := { dst := some 151, op := Op.pick (Operand.tmp 148) (Operand.tmp 150) (Operand.const (Value.bool false)), type := 4, pos := "law.go:57", after := #[{ on := 20, ground := Ground.data }, { on := 22, ground := Ground.data }, { on := 17, ground := Ground.guard }], guard := some (17, false) }) (v := ?v23c) rfl (by kernel_rfl) (by kernel_rfl) (fun _ _ _ h => h) hS (Or.inl ⟨by rfl, ?y23c⟩) (fun _ => ?r23c)
            case y23c => intro W hW; obtain ⟨hW0, hW1, hW2⟩ := hW; go_simp; (try with_reducible rfl)
            try simp only [Act.put, List.setIfInBounds_toArray, List.set_cons_zero, List.set_cons_succ]
            refine wpJ_take 24 (oi := { dst := some 152, op := Op.pick (Operand.tmp 145) (Operand.const (Value.bool true)) (Operand.tmp 151), type := 4, pos := "law.go:57", after := #[{ on := 17, ground := Ground.data }, { on := 23, ground := Ground.data }], guard := none }) (v := ?v24c) rfl (by kernel_rfl) (by kernel_rfl) (fun _ _ _ h => h) hS (Or.inl ⟨by rfl, ?y24c⟩) (fun _ => ?r24c)
            case y24c => intro W hW; obtain ⟨hW0, hW1, hW2⟩ := hW; go_simp; (try with_reducible rfl)
            try simp only [Act.put, List.setIfInBounds_toArray, List.set_cons_zero, List.set_cons_succ]
            refine wpJ_take 25 (oi := { dst := some 153, op := Op.move (Operand.tmp 152), type := 4, pos := "law.go:57", after := #[{ on := 24, ground := Ground.data }, { on := 20, ground := Ground.chain }], guard := none }) (v := ?v25c) rfl (by kernel_rfl) (by kernel_rfl) (fun _ _ _ h => h) hS (Or.inl ⟨by rfl, ?y25c⟩) (fun _ => ?r25c)
            case y25c => intro W hW; obtain ⟨hW0, hW1, hW2⟩ := hW; go_simp; (try with_reducible rfl)
            try simp only [Act.put, List.setIfInBounds_toArray, List.set_cons_zero, List.set_cons_succ]
            refine wpJ_take 26 (oi := { dst := some 154, op := Op.move (Operand.tmp 5), type := 23, pos := "law.go:57", after := #[{ on := 25, ground := Ground.guard }], guard := some (25, false) }) (v := ?v26c) rfl (by kernel_rfl) (by kernel_rfl) (fun _ _ _ h => h) hS (Or.inl ⟨by rfl, ?y26c⟩) (fun _ => ?r26c)
            case y26c => intro W hW; obtain ⟨hW0, hW1, hW2⟩ := hW; go_simp; (try with_reducible rfl)
            try simp only [Act.put, List.setIfInBounds_toArray, List.set_cons_zero, List.set_cons_succ]
            refine wpJ_take 28 (oi := { dst := some 156, op := Op.move (Operand.tmp 6), type := 25, pos := "law.go:57", after := #[{ on := 25, ground := Ground.guard }], guard := some (25, false) }) (v := ?v28c) rfl (by kernel_rfl) (by kernel_rfl) (fun _ _ _ h => h) hS (Or.inl ⟨by rfl, ?y28c⟩) (fun _ => ?r28c)
            case y28c => intro W hW; obtain ⟨hW0, hW1, hW2⟩ := hW; go_simp; (try with_reducible rfl)
            try simp only [Act.put, List.setIfInBounds_toArray, List.set_cons_zero, List.set_cons_succ]
            refine wpJ_take 29 (oi := { dst := some 157, op := Op.nilCheck (Operand.tmp 156), type := 0, pos := "law.go:57", after := #[{ on := 28, ground := Ground.data }, { on := 25, ground := Ground.guard }], guard := some (25, false) }) (v := ?v29c) rfl (by kernel_rfl) (by kernel_rfl) (fun _ _ _ h => h) hS (Or.inl ⟨by rfl, ?y29c⟩) (fun _ => ?r29c)
            case y29c => intro W hW; obtain ⟨hW0, hW1, hW2⟩ := hW; go_simp; (try with_reducible rfl)
            try simp only [Act.put, List.setIfInBounds_toArray, List.set_cons_zero, List.set_cons_succ]
            refine wpJ_take 30 (oi := { dst := some 158, op := Op.fieldAddr 36 (Operand.tmp 157) 0, type := 0, pos := "law.go:57", after := #[{ on := 29, ground := Ground.data }, { on := 25, ground := Ground.guard }], guard := some (25, false) }) (v := ?v30c) rfl (by kernel_rfl) (by kernel_rfl) (fun _ _ _ h => h) hS (Or.inl ⟨by rfl, ?y30c⟩) (fun _ => ?r30c)
            case y30c => intro W hW; obtain ⟨hW0, hW1, hW2⟩ := hW; go_simp; (try with_reducible rfl)
            try simp only [Act.put, List.setIfInBounds_toArray, List.set_cons_zero, List.set_cons_succ]
            refine wpJ_take 31 (oi := { dst := some 159, op := Op.load 3 (Operand.tmp 158), type := 3, pos := "law.go:57", after := #[{ on := 30, ground := Ground.data }, { on := 25, ground := Ground.guard }], guard := some (25, false) }) (v := ?v31c) rfl (by kernel_rfl) (by kernel_rfl) (fun _ _ _ h => h) hS (Or.inl ⟨by rfl, ?y31c⟩) (fun _ => ?r31c)
            case y31c => intro W hW; obtain ⟨hW0, hW1, hW2⟩ := hW; go_simp; (try with_reducible rfl)
            try simp only [Act.put, List.setIfInBounds_toArray, List.set_cons_zero, List.set_cons_succ]
            refine wpJ_one 27 (oi := { dst := some 155, op := Op.call { callee := Callee.value (Operand.func 16), args := #[Operand.tmp 154], argTypes := #[23] }, type := 3, pos := "law.go:57", after := #[{ on := 26, ground := Ground.data }, { on := 25, ground := Ground.chain }, { on := 25, ground := Ground.guard }], guard := some (25, false) }) rfl (by kernel_rfl) ?_
            intro K hK
            go_simp
            go_at_call 16
            refine (now_ (by exact h1.ext (G := fun _ => False) (by repeat' (first | exact Ext.refl _ _ | assumption | apply Ext.alloc | apply Ext.drewN | apply Ext.drew)) (fun _ _ x => x))).mono ?_
            rintro e wN ⟨rfl, rfl⟩
            refine hK _ _ (fun _ => hS) ?_
            clear hK K
            try simp only [Act.put, List.setIfInBounds_toArray, List.set_cons_zero, List.set_cons_succ]
            refine wpJ_take 32 (oi := { dst := some 160, op := Op.binOp BinOp.neq 3 (Operand.tmp 155) (Operand.tmp 159) 3, type := 4, pos := "law.go:57", after := #[{ on := 27, ground := Ground.data }, { on := 31, ground := Ground.data }, { on := 25, ground := Ground.guard }], guard := some (25, false) }) (v := ?v32c) rfl (by kernel_rfl) (by kernel_rfl) (fun _ _ _ h => h) hS (Or.inl ⟨by rfl, ?y32c⟩) (fun _ => ?r32c)
            case y32c => intro W hW; obtain ⟨hW0, hW1, hW2⟩ := hW; go_simp; (try with_reducible rfl)
            try simp only [Act.put, List.setIfInBounds_toArray, List.set_cons_zero, List.set_cons_succ]
            refine wpJ_take 33 (oi := { dst := some 161, op := Op.pick (Operand.tmp 153) (Operand.const (Value.bool true)) (Operand.tmp 160), type := 4, pos := "law.go:57", after := #[{ on := 25, ground := Ground.data }, { on := 32, ground := Ground.data }], guard := none }) (v := ?v33c) rfl (by kernel_rfl) (by kernel_rfl) (fun _ _ _ h => h) hS (Or.inl ⟨by rfl, ?y33c⟩) (fun _ => ?r33c)
            case y33c => intro W hW; obtain ⟨hW0, hW1, hW2⟩ := hW; go_simp; (try with_reducible rfl)
            try simp only [Act.put, List.setIfInBounds_toArray, List.set_cons_zero, List.set_cons_succ]
            refine wpJ_take 34 (oi := { dst := some 162, op := Op.move (Operand.tmp 161), type := 4, pos := "law.go:57", after := #[{ on := 33, ground := Ground.data }, { on := 27, ground := Ground.chain }], guard := none }) (v := ?v34c) rfl (by kernel_rfl) (by kernel_rfl) (fun _ _ _ h => h) hS (Or.inl ⟨by rfl, ?y34c⟩) (fun _ => ?r34c)
            case y34c => intro W hW; obtain ⟨hW0, hW1, hW2⟩ := hW; go_simp; (try with_reducible rfl)
            try simp only [Act.put, List.setIfInBounds_toArray, List.set_cons_zero, List.set_cons_succ]
            refine wpJ_take 35 (oi := { dst := some 163, op := Op.move (Operand.tmp 5), type := 23, pos := "law.go:57", after := #[{ on := 34, ground := Ground.guard }], guard := some (34, false) }) (v := ?v35c) rfl (by kernel_rfl) (by kernel_rfl) (fun _ _ _ h => h) hS (Or.inl ⟨by rfl, ?y35c⟩) (fun _ => ?r35c)
            case y35c => intro W hW; obtain ⟨hW0, hW1, hW2⟩ := hW; go_simp; (try with_reducible rfl)
            try simp only [Act.put, List.setIfInBounds_toArray, List.set_cons_zero, List.set_cons_succ]
            refine wpJ_take 37 (oi := { dst := some 165, op := Op.move (Operand.tmp 6), type := 25, pos := "law.go:57", after := #[{ on := 34, ground := Ground.guard }], guard := some (34, false) }) (v := ?v37c) rfl (by kernel_rfl) (by kernel_rfl) (fun _ _ _ h => h) hS (Or.inl ⟨by rfl, ?y37c⟩) (fun _ => ?r37c)
            case y37c => intro W hW; obtain ⟨hW0, hW1, hW2⟩ := hW; go_simp; (try with_reducible rfl)
            try simp only [Act.put, List.setIfInBounds_toArray, List.set_cons_zero, List.set_cons_succ]
            refine wpJ_take 38 (oi := { dst := some 166, op := Op.nilCheck (Operand.tmp 165), type := 0, pos := "law.go:57", after := #[{ on := 37, ground := Ground.data }, { on := 34, ground := Ground.guard }], guard := some (34, false) }) (v := ?v38c) rfl (by kernel_rfl) (by kernel_rfl) (fun _ _ _ h => h) hS (Or.inl ⟨by rfl, ?y38c⟩) (fun _ => ?r38c)
            case y38c => intro W hW; obtain ⟨hW0, hW1, hW2⟩ := hW; go_simp; (try with_reducible rfl)
            try simp only [Act.put, List.setIfInBounds_toArray, List.set_cons_zero, List.set_cons_succ]
            refine wpJ_take 39 (oi := { dst := some 167, op := Op.fieldAddr 36 (Operand.tmp 166) 2, type := 0, pos := "law.go:57", after := #[{ on := 38, ground := Ground.data }, { on := 34, ground := Ground.guard }], guard := some (34, false) }) (v := ?v39c) rfl (by kernel_rfl) (by kernel_rfl) (fun _ _ _ h => h) hS (Or.inl ⟨by rfl, ?y39c⟩) (fun _ => ?r39c)
            case y39c => intro W hW; obtain ⟨hW0, hW1, hW2⟩ := hW; go_simp; (try with_reducible rfl)
            try simp only [Act.put, List.setIfInBounds_toArray, List.set_cons_zero, List.set_cons_succ]
            refine wpJ_take 40 (oi := { dst := some 168, op := Op.load 22 (Operand.tmp 167), type := 22, pos := "law.go:57", after := #[{ on := 39, ground := Ground.data }, { on := 34, ground := Ground.guard }], guard := some (34, false) }) (v := ?v40c) rfl (by kernel_rfl) (by kernel_rfl) (fun _ _ _ h => h) hS (Or.inl ⟨by rfl, ?y40c⟩) (fun _ => ?r40c)
            case y40c => intro W hW; obtain ⟨hW0, hW1, hW2⟩ := hW; go_simp; (try with_reducible rfl)
            try simp only [Act.put, List.setIfInBounds_toArray, List.set_cons_zero, List.set_cons_succ]
            refine wpJ_one 36 (oi := { dst := some 164, op := Op.call { callee := Callee.value (Operand.func 17), args := #[Operand.tmp 163], argTypes := #[23] }, type := 22, pos := "law.go:57", after := #[{ on := 35, ground := Ground.data }, { on := 34, ground := Ground.chain }, { on := 34, ground := Ground.guard }], guard := some (34, false) }) rfl (by kernel_rfl) ?_
            intro K hK
            go_simp
            go_at_call 17
            refine (waiting_ (by exact h1.ext (G := fun _ => False) (by repeat' (first | exact Ext.refl _ _ | assumption | apply Ext.alloc | apply Ext.drewN | apply Ext.drew)) (fun _ _ x => x)) (by omega)).mono ?_
            rintro e wW ⟨v, rfl, oV, _, XW⟩
            have XW' : Ext (fun _ => False) wc wW := Ext.trans (by repeat' (first | exact Ext.refl _ _ | apply Ext.alloc | apply Ext.drewN | apply Ext.drew)) XW
            have h2W := h2.ext XW' (fun _ _ x => x)
            have hSW : wW.cell? ⟨g2, 0, none⟩ = some (.int .i64 n') ∧ wW.cell? ⟨g2, 1, none⟩ = some (.slice bp ps'.length dp) ∧ wW.cell? ⟨g2, 2, none⟩ = some (.slice bl l'.length dl) := ⟨h2W.row.cell 0, h2W.row.cell 1, h2W.row.cell 2⟩
            refine hK _ _ (fun _ => hSW) ?_
            clear hK K
            try simp only [Act.put, List.setIfInBounds_toArray, List.set_cons_zero, List.set_cons_succ]
            refine wpJ_one 41 (oi := { dst := some 169, op := Op.call { callee := Callee.value (Operand.func 14), args := #[Operand.tmp 164, Operand.tmp 168], argTypes := #[22, 22] }, type := 4, pos := "law.go:57", after := #[{ on := 36, ground := Ground.data }, { on := 40, ground := Ground.data }, { on := 36, ground := Ground.chain }, { on := 34, ground := Ground.guard }], guard := some (34, false) }) rfl (by kernel_rfl) ?_
            intro K hK
            go_simp
            go_at_call 14
            refine (sameInts_ (xs := l'.map (·.1)) (ys := l'.map (·.1)) (by rw [List.length_map]; exact own_ext oV (F := fun _ => False) (by repeat' (first | exact Ext.refl _ _ | assumption | apply Ext.alloc | apply Ext.drewN | apply Ext.drew)) (fun _ _ x => x)) (by rw [List.length_map]; exact own_ext h2W.wait (F := fun _ => False) (by repeat' (first | exact Ext.refl _ _ | assumption | apply Ext.alloc | apply Ext.drewN | apply Ext.drew)) (fun _ _ x => x)) (by simp; omega) (by simp; omega) true (by simp)).mono ?_
            rintro e wS ⟨rfl, dS⟩
            have XS : Ext (fun _ => False) wc wS := XW'.trans (Ext.trans (by repeat' (first | exact Ext.refl _ _ | apply Ext.alloc | apply Ext.drewN | apply Ext.drew)) (dS.ext _))
            have h2S := h2.ext XS (fun _ _ x => x)
            have hSS : wS.cell? ⟨g2, 0, none⟩ = some (.int .i64 n') ∧ wS.cell? ⟨g2, 1, none⟩ = some (.slice bp ps'.length dp) ∧ wS.cell? ⟨g2, 2, none⟩ = some (.slice bl l'.length dl) := ⟨h2S.row.cell 0, h2S.row.cell 1, h2S.row.cell 2⟩
            refine hK _ _ (fun _ => hSS) ?_
            clear hK K
            try simp only [Act.put, List.setIfInBounds_toArray, List.set_cons_zero, List.set_cons_succ]
            refine wpJ_take 42 (oi := { dst := some 170, op := Op.unOp UnOp.not 4 (Operand.tmp 169), type := 4, pos := "law.go:57", after := #[{ on := 41, ground := Ground.data }, { on := 34, ground := Ground.guard }], guard := some (34, false) }) (v := ?v42c) rfl (by kernel_rfl) (by kernel_rfl) (fun _ _ _ h => h) hSS (Or.inl ⟨by rfl, ?y42c⟩) (fun _ => ?r42c)
            case y42c => intro W hW; obtain ⟨hW0, hW1, hW2⟩ := hW; go_simp; (try with_reducible rfl)
            try simp only [Act.put, List.setIfInBounds_toArray, List.set_cons_zero, List.set_cons_succ]
            refine wpJ_take 43 (oi := { dst := some 171, op := Op.pick (Operand.tmp 162) (Operand.const (Value.bool true)) (Operand.tmp 170), type := 4, pos := "law.go:57", after := #[{ on := 34, ground := Ground.data }, { on := 42, ground := Ground.data }], guard := none }) (v := ?v43c) rfl (by kernel_rfl) (by kernel_rfl) (fun _ _ _ h => h) hSS (Or.inl ⟨by rfl, ?y43c⟩) (fun _ => ?r43c)
            case y43c => intro W hW; obtain ⟨hW0, hW1, hW2⟩ := hW; go_simp; (try with_reducible rfl)
            try simp only [Act.put, List.setIfInBounds_toArray, List.set_cons_zero, List.set_cons_succ]
            refine wpJ_done _ (by kernel_rfl) ?_
            go_wp2_with fail
            go_roundw
            case rel => exact ⟨k + 1, by omega, by omega, by go_num, n', pins', l', inv_ext hJ.out XS⟩
            case measure => simp [intOf]; omega
          · have hi' : i < ps'.length := by rw [hps, List.length_map]; exact hi
            have hq := map_getD pins' i hi
            rw [← hps, hz] at hq
            obtain ⟨gp, ea, hcp, _, _⟩ := h2.pinCell i hi'
            cases ea
            replace hcp : wc.cell? ⟨gp, i, none⟩ = some (.int .i64 (-1)) := by rw [hcp, hq]; rfl
            replace hq := Lib.hid hq
            replace hz := Lib.hid hz
            replace hps := Lib.hid hps
            have i0 : (0 : Int) ≤ (i : Int) := by omega
            have i1 : (i : Int) < (ps'.length : Int) := by omega
            as_aux_lemma =>
            go_wp2_with (go_at_call 15; refine (pinned_ h1 hp _ _ _ hok.out).mono ?_; rintro e wP ⟨rfl, rfl⟩)
            refine wp_region_any (by kernel_rfl) ?_
            change wpAny _ _ _ _ _ _ _ (World.drew _)
            refine wpAny_of_J (S := fun w' => w'.cell? ⟨g2, 0, none⟩ = some (.int .i64 n') ∧ w'.cell? ⟨g2, 1, none⟩ = some (.slice (some ⟨gp, 0, none⟩) ps'.length dp) ∧ w'.cell? ⟨g2, 2, none⟩ = some (.slice bl l'.length dl)) (J := fun _ => true) _ _ _ _ ?_
            refine wpJ_take 0 (oi := { dst := some 128, op := Op.move (Operand.tmp 14), type := 4, pos := "law.go:57", after := #[], guard := none }) (v := ?v0d) rfl (by kernel_rfl) (by kernel_rfl) (fun _ _ _ h => h) hS (Or.inl ⟨by rfl, ?y0d⟩) (fun _ => ?r0d)
            case y0d => intro W hW; obtain ⟨hW0, hW1, hW2⟩ := hW; go_simp; (try with_reducible rfl)
            try simp only [Act.put, List.setIfInBounds_toArray, List.set_cons_zero, List.set_cons_succ]
            refine wpJ_take 1 (oi := { dst := some 129, op := Op.move (Operand.tmp 15), type := 4, pos := "law.go:57", after := #[], guard := none }) (v := ?v1d) rfl (by kernel_rfl) (by kernel_rfl) (fun _ _ _ h => h) hS (Or.inl ⟨by rfl, ?y1d⟩) (fun _ => ?r1d)
            case y1d => intro W hW; obtain ⟨hW0, hW1, hW2⟩ := hW; go_simp; (try with_reducible rfl)
            try simp only [Act.put, List.setIfInBounds_toArray, List.set_cons_zero, List.set_cons_succ]
            refine wpJ_take 2 (oi := { dst := some 130, op := Op.binOp BinOp.neq 4 (Operand.tmp 128) (Operand.tmp 129) 4, type := 4, pos := "law.go:57", after := #[{ on := 0, ground := Ground.data }, { on := 1, ground := Ground.data }], guard := none }) (v := ?v2d) rfl (by kernel_rfl) (by kernel_rfl) (fun _ _ _ h => h) hS (Or.inl ⟨by rfl, ?y2d⟩) (fun _ => ?r2d)
            case y2d => intro W hW; obtain ⟨hW0, hW1, hW2⟩ := hW; go_simp; (try with_reducible rfl)
            try simp only [Act.put, List.setIfInBounds_toArray, List.set_cons_zero, List.set_cons_succ]
            refine wpJ_take 3 (oi := { dst := some 131, op := Op.move (Operand.tmp 130), type := 4, pos := "law.go:57", after := #[{ on := 2, ground := Ground.data }], guard := none }) (v := ?v3d) rfl (by kernel_rfl) (by kernel_rfl) (fun _ _ _ h => h) hS (Or.inl ⟨by rfl, ?y3d⟩) (fun _ => ?r3d)
            case y3d => intro W hW; obtain ⟨hW0, hW1, hW2⟩ := hW; go_simp; (try with_reducible rfl)
            try simp only [Act.put, List.setIfInBounds_toArray, List.set_cons_zero, List.set_cons_succ]
            refine wpJ_take 4 (oi := { dst := some 132, op := Op.move (Operand.tmp 15), type := 4, pos := "law.go:57", after := #[{ on := 3, ground := Ground.guard }], guard := some (3, false) }) (v := ?v4d) rfl (by kernel_rfl) (by kernel_rfl) (fun _ _ _ h => h) hS (Or.inl ⟨by rfl, ?y4d⟩) (fun _ => ?r4d)
            case y4d => intro W hW; obtain ⟨hW0, hW1, hW2⟩ := hW; go_simp; (try with_reducible rfl)
            try simp only [Act.put, List.setIfInBounds_toArray, List.set_cons_zero, List.set_cons_succ]
            refine wpJ_take 5 (oi := { dst := some 133, op := Op.move (Operand.tmp 132), type := 4, pos := "law.go:57", after := #[{ on := 4, ground := Ground.data }, { on := 3, ground := Ground.chain }, { on := 3, ground := Ground.guard }], guard := some (3, false) }) (v := ?v5d) rfl (by kernel_rfl) (by kernel_rfl) (fun _ _ _ h => h) hS (Or.inl ⟨by rfl, ?y5d⟩) (fun _ => ?r5d)
            case y5d => intro W hW; obtain ⟨hW0, hW1, hW2⟩ := hW; go_simp; (try with_reducible rfl)
            try simp only [Act.put, List.setIfInBounds_toArray, List.set_cons_zero, List.set_cons_succ]
            refine wpJ_take 6 (oi := { dst := some 134, op := Op.move (Operand.tmp 13), type := 3, pos := "law.go:57", after := #[{ on := 5, ground := Ground.guard }], guard := some (5, true) }) (v := undef) rfl (by kernel_rfl) (by kernel_rfl) (fun _ _ _ h => h) hS (Or.inr ⟨by rfl, rfl⟩) (fun _ => ?_)
            try simp only [Act.put, List.setIfInBounds_toArray, List.set_cons_zero, List.set_cons_succ]
            refine wpJ_take 7 (oi := { dst := some 135, op := Op.move (Operand.tmp 6), type := 25, pos := "law.go:57", after := #[{ on := 5, ground := Ground.guard }], guard := some (5, true) }) (v := undef) rfl (by kernel_rfl) (by kernel_rfl) (fun _ _ _ h => h) hS (Or.inr ⟨by rfl, rfl⟩) (fun _ => ?_)
            try simp only [Act.put, List.setIfInBounds_toArray, List.set_cons_zero, List.set_cons_succ]
            refine wpJ_take 8 (oi := { dst := some 136, op := Op.nilCheck (Operand.tmp 135), type := 0, pos := "law.go:57", after := #[{ on := 7, ground := Ground.data }, { on := 5, ground := Ground.guard }], guard := some (5, true) }) (v := undef) rfl (by kernel_rfl) (by kernel_rfl) (fun _ _ _ h => h) hS (Or.inr ⟨by rfl, rfl⟩) (fun _ => ?_)
            try simp only [Act.put, List.setIfInBounds_toArray, List.set_cons_zero, List.set_cons_succ]
            refine wpJ_take 9 (oi := { dst := some 137, op := Op.fieldAddr 36 (Operand.tmp 136) 1, type := 0, pos := "law.go:57", after := #[{ on := 8, ground := Ground.data }, { on := 5, ground := Ground.guard }], guard := some (5, true) }) (v := undef) rfl (by kernel_rfl) (by kernel_rfl) (fun _ _ _ h => h) hS (Or.inr ⟨by rfl, rfl⟩) (fun _ => ?_)
            try simp only [Act.put, List.setIfInBounds_toArray, List.set_cons_zero, List.set_cons_succ]
            refine wpJ_take 10 (oi := { dst := some 138, op := Op.load 22 (Operand.tmp 137), type := 22, pos := "law.go:57", after := #[{ on := 9, ground := Ground.data }, { on := 5, ground := Ground.guard }], guard := some (5, true) }) (v := undef) rfl (by kernel_rfl) (by kernel_rfl) (fun _ _ _ h => h) hS (Or.inr ⟨by rfl, rfl⟩) (fun _ => ?_)
            try simp only [Act.put, List.setIfInBounds_toArray, List.set_cons_zero, List.set_cons_succ]
            refine wpJ_take 11 (oi := { dst := some 139, op := Op.move (Operand.tmp 8), type := 3, pos := "law.go:57", after := #[{ on := 5, ground := Ground.guard }], guard := some (5, true) }) (v := undef) rfl (by kernel_rfl) (by kernel_rfl) (fun _ _ _ h => h) hS (Or.inr ⟨by rfl, rfl⟩) (fun _ => ?_)
            try simp only [Act.put, List.setIfInBounds_toArray, List.set_cons_zero, List.set_cons_succ]
            refine wpJ_take 12 (oi := { dst := some 140, op := Op.indexAddr 22 (Operand.tmp 138) (Operand.tmp 139), type := 0, pos := "law.go:57", after := #[{ on := 10, ground := Ground.data }, { on := 11, ground := Ground.data }, { on := 5, ground := Ground.guard }], guard := some (5, true) }) (v := undef) rfl (by kernel_rfl) (by kernel_rfl) (fun _ _ _ h => h) hS (Or.inr ⟨by rfl, rfl⟩) (fun _ => ?_)
            try simp only [Act.put, List.setIfInBounds_toArray, List.set_cons_zero, List.set_cons_succ]
            refine wpJ_take 13 (oi := { dst := some 141, op := Op.load 3 (Operand.tmp 140), type := 3, pos := "law.go:57", after := #[{ on := 12, ground := Ground.data }, { on := 5, ground := Ground.guard }], guard := some (5, true) }) (v := undef) rfl (by kernel_rfl) (by kernel_rfl) (fun _ _ _ h => h) hS (Or.inr ⟨by rfl, rfl⟩) (fun _ => ?_)
            try simp only [Act.put, List.setIfInBounds_toArray, List.set_cons_zero, List.set_cons_succ]
            refine wpJ_take 14 (oi := { dst := some 142, op := Op.binOp BinOp.neq 3 (Operand.tmp 134) (Operand.tmp 141) 3, type := 4, pos := "law.go:57", after := #[{ on := 6, ground := Ground.data }, { on := 13, ground := Ground.data }, { on := 5, ground := Ground.guard }], guard := some (5, true) }) (v := undef) rfl (by kernel_rfl) (by kernel_rfl) (fun _ _ _ h => h) hS (Or.inr ⟨by rfl, rfl⟩) (fun _ => ?_)
            try simp only [Act.put, List.setIfInBounds_toArray, List.set_cons_zero, List.set_cons_succ]
            refine wpJ_take 15 (oi := { dst := some 143, op := Op.pick (Operand.tmp 133) (Operand.tmp 142) (Operand.const (Value.bool false)), type := 4, pos := "law.go:57", after := #[{ on := 5, ground := Ground.data }, { on := 14, ground := Ground.data }, { on := 3, ground := Ground.guard }], guard := some (3, false) }) (v := ?v15d) rfl (by kernel_rfl) (by kernel_rfl) (fun _ _ _ h => h) hS (Or.inl ⟨by rfl, ?y15d⟩) (fun _ => ?r15d)
            case y15d => intro W hW; obtain ⟨hW0, hW1, hW2⟩ := hW; go_simp; (try with_reducible rfl)
            try simp only [Act.put, List.setIfInBounds_toArray, List.set_cons_zero, List.set_cons_succ]
            refine wpJ_take 16 (oi := { dst := some 144, op := Op.pick (Operand.tmp 131) (Operand.const (Value.bool true)) (Operand.tmp 143), type := 4, pos := "law.go:57", after := #[{ on := 3, ground := Ground.data }, { on := 15, ground := Ground.data }], guard := none }) (v := ?v16d) rfl (by kernel_rfl) (by kernel_rfl) (fun _ _ _ h => h) hS (Or.inl ⟨by rfl, ?y16d⟩) (fun _ => ?r16d)
            case y16d => intro W hW; obtain ⟨hW0, hW1, hW2⟩ := hW; go_simp; (try with_reducible rfl)
            try simp only [Act.put, List.setIfInBounds_toArray, List.set_cons_zero, List.set_cons_succ]
            refine wpJ_take 17 (oi := { dst := some 145, op := Op.move (Operand.tmp 144), type := 4, pos := "law.go:57", after := #[{ on := 16, ground := Ground.data }, { on := 5, ground := Ground.chain }], guard := none }) (v := ?v17d) rfl (by kernel_rfl) (by kernel_rfl) (fun _ _ _ h => h) hS (Or.inl ⟨by rfl, ?y17d⟩) (fun _ => ?r17d)
            case y17d => intro W hW; obtain ⟨hW0, hW1, hW2⟩ := hW; go_simp; (try with_reducible rfl)
            try simp only [Act.put, List.setIfInBounds_toArray, List.set_cons_zero, List.set_cons_succ]
            refine wpJ_take 18 (oi := { dst := some 146, op := Op.move (Operand.tmp 15), type := 4, pos := "law.go:57", after := #[{ on := 17, ground := Ground.guard }], guard := some (17, false) }) (v := ?v18d) rfl (by kernel_rfl) (by kernel_rfl) (fun _ _ _ h => h) hS (Or.inl ⟨by rfl, ?y18d⟩) (fun _ => ?r18d)
            case y18d => intro W hW; obtain ⟨hW0, hW1, hW2⟩ := hW; go_simp; (try with_reducible rfl)
            try simp only [Act.put, List.setIfInBounds_toArray, List.set_cons_zero, List.set_cons_succ]
            refine wpJ_take 19 (oi := { dst := some 147, op := Op.unOp UnOp.not 4 (Operand.tmp 146), type := 4, pos := "law.go:57", after := #[{ on := 18, ground := Ground.data }, { on := 17, ground := Ground.guard }], guard := some (17, false) }) (v := ?v19d) rfl (by kernel_rfl) (by kernel_rfl) (fun _ _ _ h => h) hS (Or.inl ⟨by rfl, ?y19d⟩) (fun _ => ?r19d)
            case y19d => intro W hW; obtain ⟨hW0, hW1, hW2⟩ := hW; go_simp; (try with_reducible rfl)
            try simp only [Act.put, List.setIfInBounds_toArray, List.set_cons_zero, List.set_cons_succ]
            refine wpJ_take 20 (oi := { dst := some 148, op := Op.move (Operand.tmp 147), type := 4, pos := "law.go:57", after := #[{ on := 19, ground := Ground.data }, { on := 17, ground := Ground.chain }, { on := 17, ground := Ground.guard }], guard := some (17, false) }) (v := ?v20d) rfl (by kernel_rfl) (by kernel_rfl) (fun _ _ _ h => h) hS (Or.inl ⟨by rfl, ?y20d⟩) (fun _ => ?r20d)
            case y20d => intro W hW; obtain ⟨hW0, hW1, hW2⟩ := hW; go_simp; (try with_reducible rfl)
            try simp only [Act.put, List.setIfInBounds_toArray, List.set_cons_zero, List.set_cons_succ]
            refine wpJ_take 21 (oi := { dst := some 149, op := Op.move (Operand.tmp 13), type := 3, pos := "law.go:57", after := #[{ on := 20, ground := Ground.guard }], guard := some (20, true) }) (v := ?v21d) rfl (by kernel_rfl) (by kernel_rfl) (fun _ _ _ h => h) hS (Or.inl ⟨by rfl, ?y21d⟩) (fun _ => ?r21d)
            case y21d => intro W hW; obtain ⟨hW0, hW1, hW2⟩ := hW; go_simp; (try with_reducible rfl)
            try simp only [Act.put, List.setIfInBounds_toArray, List.set_cons_zero, List.set_cons_succ]
            refine wpJ_take 22 (oi := { dst := some 150, op := Op.binOp BinOp.neq 3 (Operand.tmp 149) (Operand.const (Value.int IntKind.i64 0)) 3, type := 4, pos := "law.go:57", after := #[{ on := 21, ground := Ground.data }, { on := 20, ground := Ground.guard }], guard := some (20, true) }) (v := ?v22d) rfl (by kernel_rfl) (by kernel_rfl) (fun _ _ _ h => h) hS (Or.inl ⟨by rfl, ?y22d⟩) (fun _ => ?r22d)
            case y22d => intro W hW; obtain ⟨hW0, hW1, hW2⟩ := hW; go_simp; (try with_reducible rfl)
            try simp only [Act.put, List.setIfInBounds_toArray, List.set_cons_zero, List.set_cons_succ]
            refine wpJ_take 23 (oi := { dst := some 151, op := Op.pick (Operand.tmp 148) (Operand.tmp 150) (Operand.const (Value.bool false)), type := 4, pos := "law.go:57", after := #[{ on := 20, ground := Ground.data }, { on := 22, ground := Ground.data }, { on := 17, ground := Ground.guard }], guard := some (17, false) }) (v := ?v23d) rfl (by kernel_rfl) (by kernel_rfl) (fun _ _ _ h => h) hS (Or.inl ⟨by rfl, ?y23d⟩) (fun _ => ?r23d)
            case y23d => intro W hW; obtain ⟨hW0, hW1, hW2⟩ := hW; go_simp; (try with_reducible rfl)
            try simp only [Act.put, List.setIfInBounds_toArray, List.set_cons_zero, List.set_cons_succ]
            refine wpJ_take 24 (oi := { dst := some 152, op := Op.pick (Operand.tmp 145) (Operand.const (Value.bool true)) (Operand.tmp 151), type := 4, pos := "law.go:57", after := #[{ on := 17, ground := Ground.data }, { on := 23, ground := Ground.data }], guard := none }) (v := ?v24d) rfl (by kernel_rfl) (by kernel_rfl) (fun _ _ _ h => h) hS (Or.inl ⟨by rfl, ?y24d⟩) (fun _ => ?r24d)
            case y24d => intro W hW; obtain ⟨hW0, hW1, hW2⟩ := hW; go_simp; (try with_reducible rfl)
            try simp only [Act.put, List.setIfInBounds_toArray, List.set_cons_zero, List.set_cons_succ]
            refine wpJ_take 25 (oi := { dst := some 153, op := Op.move (Operand.tmp 152), type := 4, pos := "law.go:57", after := #[{ on := 24, ground := Ground.data }, { on := 20, ground := Ground.chain }], guard := none }) (v := ?v25d) rfl (by kernel_rfl) (by kernel_rfl) (fun _ _ _ h => h) hS (Or.inl ⟨by rfl, ?y25d⟩) (fun _ => ?r25d)
            case y25d => intro W hW; obtain ⟨hW0, hW1, hW2⟩ := hW; go_simp; (try with_reducible rfl)
            try simp only [Act.put, List.setIfInBounds_toArray, List.set_cons_zero, List.set_cons_succ]
            refine wpJ_take 26 (oi := { dst := some 154, op := Op.move (Operand.tmp 5), type := 23, pos := "law.go:57", after := #[{ on := 25, ground := Ground.guard }], guard := some (25, false) }) (v := ?v26d) rfl (by kernel_rfl) (by kernel_rfl) (fun _ _ _ h => h) hS (Or.inl ⟨by rfl, ?y26d⟩) (fun _ => ?r26d)
            case y26d => intro W hW; obtain ⟨hW0, hW1, hW2⟩ := hW; go_simp; (try with_reducible rfl)
            try simp only [Act.put, List.setIfInBounds_toArray, List.set_cons_zero, List.set_cons_succ]
            refine wpJ_take 28 (oi := { dst := some 156, op := Op.move (Operand.tmp 6), type := 25, pos := "law.go:57", after := #[{ on := 25, ground := Ground.guard }], guard := some (25, false) }) (v := ?v28d) rfl (by kernel_rfl) (by kernel_rfl) (fun _ _ _ h => h) hS (Or.inl ⟨by rfl, ?y28d⟩) (fun _ => ?r28d)
            case y28d => intro W hW; obtain ⟨hW0, hW1, hW2⟩ := hW; go_simp; (try with_reducible rfl)
            try simp only [Act.put, List.setIfInBounds_toArray, List.set_cons_zero, List.set_cons_succ]
            refine wpJ_take 29 (oi := { dst := some 157, op := Op.nilCheck (Operand.tmp 156), type := 0, pos := "law.go:57", after := #[{ on := 28, ground := Ground.data }, { on := 25, ground := Ground.guard }], guard := some (25, false) }) (v := ?v29d) rfl (by kernel_rfl) (by kernel_rfl) (fun _ _ _ h => h) hS (Or.inl ⟨by rfl, ?y29d⟩) (fun _ => ?r29d)
            case y29d => intro W hW; obtain ⟨hW0, hW1, hW2⟩ := hW; go_simp; (try with_reducible rfl)
            try simp only [Act.put, List.setIfInBounds_toArray, List.set_cons_zero, List.set_cons_succ]
            refine wpJ_take 30 (oi := { dst := some 158, op := Op.fieldAddr 36 (Operand.tmp 157) 0, type := 0, pos := "law.go:57", after := #[{ on := 29, ground := Ground.data }, { on := 25, ground := Ground.guard }], guard := some (25, false) }) (v := ?v30d) rfl (by kernel_rfl) (by kernel_rfl) (fun _ _ _ h => h) hS (Or.inl ⟨by rfl, ?y30d⟩) (fun _ => ?r30d)
            case y30d => intro W hW; obtain ⟨hW0, hW1, hW2⟩ := hW; go_simp; (try with_reducible rfl)
            try simp only [Act.put, List.setIfInBounds_toArray, List.set_cons_zero, List.set_cons_succ]
            refine wpJ_take 31 (oi := { dst := some 159, op := Op.load 3 (Operand.tmp 158), type := 3, pos := "law.go:57", after := #[{ on := 30, ground := Ground.data }, { on := 25, ground := Ground.guard }], guard := some (25, false) }) (v := ?v31d) rfl (by kernel_rfl) (by kernel_rfl) (fun _ _ _ h => h) hS (Or.inl ⟨by rfl, ?y31d⟩) (fun _ => ?r31d)
            case y31d => intro W hW; obtain ⟨hW0, hW1, hW2⟩ := hW; go_simp; (try with_reducible rfl)
            try simp only [Act.put, List.setIfInBounds_toArray, List.set_cons_zero, List.set_cons_succ]
            refine wpJ_one 27 (oi := { dst := some 155, op := Op.call { callee := Callee.value (Operand.func 16), args := #[Operand.tmp 154], argTypes := #[23] }, type := 3, pos := "law.go:57", after := #[{ on := 26, ground := Ground.data }, { on := 25, ground := Ground.chain }, { on := 25, ground := Ground.guard }], guard := some (25, false) }) rfl (by kernel_rfl) ?_
            intro K hK
            go_simp
            go_at_call 16
            refine (now_ (by exact h1.ext (G := fun _ => False) (by repeat' (first | exact Ext.refl _ _ | assumption | apply Ext.alloc | apply Ext.drewN | apply Ext.drew)) (fun _ _ x => x))).mono ?_
            rintro e wN ⟨rfl, rfl⟩
            refine hK _ _ (fun _ => hS) ?_
            clear hK K
            try simp only [Act.put, List.setIfInBounds_toArray, List.set_cons_zero, List.set_cons_succ]
            refine wpJ_take 32 (oi := { dst := some 160, op := Op.binOp BinOp.neq 3 (Operand.tmp 155) (Operand.tmp 159) 3, type := 4, pos := "law.go:57", after := #[{ on := 27, ground := Ground.data }, { on := 31, ground := Ground.data }, { on := 25, ground := Ground.guard }], guard := some (25, false) }) (v := ?v32d) rfl (by kernel_rfl) (by kernel_rfl) (fun _ _ _ h => h) hS (Or.inl ⟨by rfl, ?y32d⟩) (fun _ => ?r32d)
            case y32d => intro W hW; obtain ⟨hW0, hW1, hW2⟩ := hW; go_simp; (try with_reducible rfl)
            try simp only [Act.put, List.setIfInBounds_toArray, List.set_cons_zero, List.set_cons_succ]
            refine wpJ_take 33 (oi := { dst := some 161, op := Op.pick (Operand.tmp 153) (Operand.const (Value.bool true)) (Operand.tmp 160), type := 4, pos := "law.go:57", after := #[{ on := 25, ground := Ground.data }, { on := 32, ground := Ground.data }], guard := none }) (v := ?v33d) rfl (by kernel_rfl) (by kernel_rfl) (fun _ _ _ h => h) hS (Or.inl ⟨by rfl, ?y33d⟩) (fun _ => ?r33d)
            case y33d => intro W hW; obtain ⟨hW0, hW1, hW2⟩ := hW; go_simp; (try with_reducible rfl)
            try simp only [Act.put, List.setIfInBounds_toArray, List.set_cons_zero, List.set_cons_succ]
            refine wpJ_take 34 (oi := { dst := some 162, op := Op.move (Operand.tmp 161), type := 4, pos := "law.go:57", after := #[{ on := 33, ground := Ground.data }, { on := 27, ground := Ground.chain }], guard := none }) (v := ?v34d) rfl (by kernel_rfl) (by kernel_rfl) (fun _ _ _ h => h) hS (Or.inl ⟨by rfl, ?y34d⟩) (fun _ => ?r34d)
            case y34d => intro W hW; obtain ⟨hW0, hW1, hW2⟩ := hW; go_simp; (try with_reducible rfl)
            try simp only [Act.put, List.setIfInBounds_toArray, List.set_cons_zero, List.set_cons_succ]
            refine wpJ_take 35 (oi := { dst := some 163, op := Op.move (Operand.tmp 5), type := 23, pos := "law.go:57", after := #[{ on := 34, ground := Ground.guard }], guard := some (34, false) }) (v := ?v35d) rfl (by kernel_rfl) (by kernel_rfl) (fun _ _ _ h => h) hS (Or.inl ⟨by rfl, ?y35d⟩) (fun _ => ?r35d)
            case y35d => intro W hW; obtain ⟨hW0, hW1, hW2⟩ := hW; go_simp; (try with_reducible rfl)
            try simp only [Act.put, List.setIfInBounds_toArray, List.set_cons_zero, List.set_cons_succ]
            refine wpJ_take 37 (oi := { dst := some 165, op := Op.move (Operand.tmp 6), type := 25, pos := "law.go:57", after := #[{ on := 34, ground := Ground.guard }], guard := some (34, false) }) (v := ?v37d) rfl (by kernel_rfl) (by kernel_rfl) (fun _ _ _ h => h) hS (Or.inl ⟨by rfl, ?y37d⟩) (fun _ => ?r37d)
            case y37d => intro W hW; obtain ⟨hW0, hW1, hW2⟩ := hW; go_simp; (try with_reducible rfl)
            try simp only [Act.put, List.setIfInBounds_toArray, List.set_cons_zero, List.set_cons_succ]
            refine wpJ_take 38 (oi := { dst := some 166, op := Op.nilCheck (Operand.tmp 165), type := 0, pos := "law.go:57", after := #[{ on := 37, ground := Ground.data }, { on := 34, ground := Ground.guard }], guard := some (34, false) }) (v := ?v38d) rfl (by kernel_rfl) (by kernel_rfl) (fun _ _ _ h => h) hS (Or.inl ⟨by rfl, ?y38d⟩) (fun _ => ?r38d)
            case y38d => intro W hW; obtain ⟨hW0, hW1, hW2⟩ := hW; go_simp; (try with_reducible rfl)
            try simp only [Act.put, List.setIfInBounds_toArray, List.set_cons_zero, List.set_cons_succ]
            refine wpJ_take 39 (oi := { dst := some 167, op := Op.fieldAddr 36 (Operand.tmp 166) 2, type := 0, pos := "law.go:57", after := #[{ on := 38, ground := Ground.data }, { on := 34, ground := Ground.guard }], guard := some (34, false) }) (v := ?v39d) rfl (by kernel_rfl) (by kernel_rfl) (fun _ _ _ h => h) hS (Or.inl ⟨by rfl, ?y39d⟩) (fun _ => ?r39d)
            case y39d => intro W hW; obtain ⟨hW0, hW1, hW2⟩ := hW; go_simp; (try with_reducible rfl)
            try simp only [Act.put, List.setIfInBounds_toArray, List.set_cons_zero, List.set_cons_succ]
            refine wpJ_take 40 (oi := { dst := some 168, op := Op.load 22 (Operand.tmp 167), type := 22, pos := "law.go:57", after := #[{ on := 39, ground := Ground.data }, { on := 34, ground := Ground.guard }], guard := some (34, false) }) (v := ?v40d) rfl (by kernel_rfl) (by kernel_rfl) (fun _ _ _ h => h) hS (Or.inl ⟨by rfl, ?y40d⟩) (fun _ => ?r40d)
            case y40d => intro W hW; obtain ⟨hW0, hW1, hW2⟩ := hW; go_simp; (try with_reducible rfl)
            try simp only [Act.put, List.setIfInBounds_toArray, List.set_cons_zero, List.set_cons_succ]
            refine wpJ_one 36 (oi := { dst := some 164, op := Op.call { callee := Callee.value (Operand.func 17), args := #[Operand.tmp 163], argTypes := #[23] }, type := 22, pos := "law.go:57", after := #[{ on := 35, ground := Ground.data }, { on := 34, ground := Ground.chain }, { on := 34, ground := Ground.guard }], guard := some (34, false) }) rfl (by kernel_rfl) ?_
            intro K hK
            go_simp
            go_at_call 17
            refine (waiting_ (by exact h1.ext (G := fun _ => False) (by repeat' (first | exact Ext.refl _ _ | assumption | apply Ext.alloc | apply Ext.drewN | apply Ext.drew)) (fun _ _ x => x)) (by omega)).mono ?_
            rintro e wW ⟨v, rfl, oV, _, XW⟩
            have XW' : Ext (fun _ => False) wc wW := Ext.trans (by repeat' (first | exact Ext.refl _ _ | apply Ext.alloc | apply Ext.drewN | apply Ext.drew)) XW
            have h2W := h2.ext XW' (fun _ _ x => x)
            have hSW : wW.cell? ⟨g2, 0, none⟩ = some (.int .i64 n') ∧ wW.cell? ⟨g2, 1, none⟩ = some (.slice (some ⟨gp, 0, none⟩) ps'.length dp) ∧ wW.cell? ⟨g2, 2, none⟩ = some (.slice bl l'.length dl) := ⟨h2W.row.cell 0, h2W.row.cell 1, h2W.row.cell 2⟩
            refine hK _ _ (fun _ => hSW) ?_
            clear hK K
            try simp only [Act.put, List.setIfInBounds_toArray, List.set_cons_zero, List.set_cons_succ]
            refine wpJ_one 41 (oi := { dst := some 169, op := Op.call { callee := Callee.value (Operand.func 14), args := #[Operand.tmp 164, Operand.tmp 168], argTypes := #[22, 22] }, type := 4, pos := "law.go:57", after := #[{ on := 36, ground := Ground.data }, { on := 40, ground := Ground.data }, { on := 36, ground := Ground.chain }, { on := 34, ground := Ground.guard }], guard := some (34, false) }) rfl (by kernel_rfl) ?_
            intro K hK
            go_simp
            go_at_call 14
            refine (sameInts_ (xs := l'.map (·.1)) (ys := l'.map (·.1)) (by rw [List.length_map]; exact own_ext oV (F := fun _ => False) (by repeat' (first | exact Ext.refl _ _ | assumption | apply Ext.alloc | apply Ext.drewN | apply Ext.drew)) (fun _ _ x => x)) (by rw [List.length_map]; exact own_ext h2W.wait (F := fun _ => False) (by repeat' (first | exact Ext.refl _ _ | assumption | apply Ext.alloc | apply Ext.drewN | apply Ext.drew)) (fun _ _ x => x)) (by simp; omega) (by simp; omega) true (by simp)).mono ?_
            rintro e wS ⟨rfl, dS⟩
            have XS : Ext (fun _ => False) wc wS := XW'.trans (Ext.trans (by repeat' (first | exact Ext.refl _ _ | apply Ext.alloc | apply Ext.drewN | apply Ext.drew)) (dS.ext _))
            have h2S := h2.ext XS (fun _ _ x => x)
            have hSS : wS.cell? ⟨g2, 0, none⟩ = some (.int .i64 n') ∧ wS.cell? ⟨g2, 1, none⟩ = some (.slice (some ⟨gp, 0, none⟩) ps'.length dp) ∧ wS.cell? ⟨g2, 2, none⟩ = some (.slice bl l'.length dl) := ⟨h2S.row.cell 0, h2S.row.cell 1, h2S.row.cell 2⟩
            refine hK _ _ (fun _ => hSS) ?_
            clear hK K
            try simp only [Act.put, List.setIfInBounds_toArray, List.set_cons_zero, List.set_cons_succ]
            refine wpJ_take 42 (oi := { dst := some 170, op := Op.unOp UnOp.not 4 (Operand.tmp 169), type := 4, pos := "law.go:57", after := #[{ on := 41, ground := Ground.data }, { on := 34, ground := Ground.guard }], guard := some (34, false) }) (v := ?v42d) rfl (by kernel_rfl) (by kernel_rfl) (fun _ _ _ h => h) hSS (Or.inl ⟨by rfl, ?y42d⟩) (fun _ => ?r42d)
            case y42d => intro W hW; obtain ⟨hW0, hW1, hW2⟩ := hW; go_simp; (try with_reducible rfl)
            try simp only [Act.put, List.setIfInBounds_toArray, List.set_cons_zero, List.set_cons_succ]
            refine wpJ_take 43 (oi := { dst := some 171, op := Op.pick (Operand.tmp 162) (Operand.const (Value.bool true)) (Operand.tmp 170), type := 4, pos := "law.go:57", after := #[{ on := 34, ground := Ground.data }, { on := 42, ground := Ground.data }], guard := none }) (v := ?v43d) rfl (by kernel_rfl) (by kernel_rfl) (fun _ _ _ h => h) hSS (Or.inl ⟨by rfl, ?y43d⟩) (fun _ => ?r43d)
            case y43d => intro W hW; obtain ⟨hW0, hW1, hW2⟩ := hW; go_simp; (try with_reducible rfl)
            try simp only [Act.put, List.setIfInBounds_toArray, List.set_cons_zero, List.set_cons_succ]
            refine wpJ_done _ (by kernel_rfl) ?_
            go_wp2_with fail
            go_roundw
            case rel => exact ⟨k + 1, by omega, by omega, by go_num, n', pins', l', inv_ext hJ.out XS⟩
            case measure => simp [intOf]; omega
    · have hge : len ≤ k ∨ 80 ≤ k := by omega
      have hX := Lib.hid (pair_ext hI.out.pair)
      have fin : ∀ W, Calls Try.prog 18 #[] W fun e w' => e = .returned (.bool true) ∧ Ext (fun _ => False) W w' := awake_
      replace fin := Lib.hid fin
      by_cases h1 : k < len
      · have d1 : decide ((k : Int) < (len : Int)) = true := decide_eq_true (by omega)
        have d2 : decide ((k : Int) < 80) = false := decide_eq_false (by omega)
        have k1 : (k : Int) < (len : Int) := by omega
        have k2 : (80 : Int) ≤ (k : Int) := by omega
        clear hlt hge
        as_aux_lemma =>
        go_wp2_with (go_at_call 18; refine (fin.out _).mono ?_; rintro e wZ ⟨rfl, XZ⟩)
        go_ret
        exact ⟨rfl, hX.out.trans XZ⟩
      · have d1 : decide ((k : Int) < (len : Int)) = false := decide_eq_false (by omega)
        have k1 : (len : Int) ≤ (k : Int) := by omega
        clear hlt hge
        as_aux_lemma =>
        go_wp2_with (go_at_call 18; refine (fin.out _).mono ?_; rintro e wZ ⟨rfl, XZ⟩)
        go_ret
        exact ⟨rfl, hX.out.trans XZ⟩
end Go.Proofs.Ytibpmhfompoepaa
