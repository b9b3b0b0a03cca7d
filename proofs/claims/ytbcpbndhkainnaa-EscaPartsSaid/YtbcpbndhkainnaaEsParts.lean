/- EscaParts, walked. -/
import Derived.Test.YtbcpbndhkainnaaEsCancel
import Derived.Test.YtbcpbndhkainnaaSl
import Derived.Outline
namespace Go.Proofs.Ytbcpbndhkainnaa
open Go.RowKit
set_option linter.unusedSimpArgs false
set_option linter.unusedVariables false
theorem src_rd {w : World} {v : Option Addr} {c : Nat} {zs : List Int} (h : Rd .u8 w v zs) : Src Try.prog 1 36 (.slice v zs.length c) zs.length (bytesV zs) w := by
  cases v with
  | none =>
    have : zs = [] := by
      cases zs with
      | nil => rfl
      | cons z l => obtain ⟨g, off, e, _⟩ := h 0 (by simp); cases e
    subst this
    exact Src.ofNil w Try.underlying36 c
  | some ad =>
    refine Src.ofSlice w Try.underlying36 ad zs.length c _ (by simp [bytesV]) (fun j u hu => ?_) (fun u hu => ?_)
    · have hj : j < zs.length := by have := (List.getElem?_eq_some_iff.1 hu).1; simpa [bytesV] using this
      obtain ⟨g, off, e, _, hc⟩ := h j hj
      injection e with e
      subst e
      have e2 : (⟨g, off, none⟩ : Addr).add j = ⟨g, off + j, none⟩ := by unfold Addr.add; split <;> simp_all
      rw [e2, hc]
      simp [bytesV, hj] at hu
      rw [hu]
    · obtain ⟨x, _, rfl⟩ := List.mem_map.1 hu
      rfl
theorem own_cap {w : World} {base e size n c : Nat} {v : Option Addr} {xs : List Value} (h : w.ownsRow base e size (.slice v n c) n xs) : n ≤ c := by
  rcases h.2 with ⟨e1, rfl⟩ | ⟨g, cap, cur, e1, _, _, hc, _⟩
  · exact Nat.zero_le _
  · injection e1 with _ _ e3
    omega
theorem St.app0 {F : Nat → Prop} {W0 w w9 : World} {bs : List Blk} {ks : List Fact} {t size n : Nat} {v : Value} {xs : List Value} (hS : St F W0 w bs ks) (f : Fact) (hf : f ∈ ks) (hfr : Fresh W0.heap.size v) (x : Ext (Bk v) w w9) (he : f = own1 t size v n xs := by rfl) : St F W0 w9 bs [] := by
  subst he
  exact (hS.drop (ks' := []) (by simp)).step x (fun y hy hk => (hS.kept _ hf).2 y.1 hk ⟨y, hy, rfl⟩) (by simp) (fun k hk => Or.inr (hfr k hk))
theorem absorb_Q {Q : Exit → Act → World → Prop} {ex : Exit} {a : Act} {F : Nat → Prop} {W0 w : World} {bs : List Blk} {ks : List Fact} (hS : St F W0 w bs ks) (h : ∀ w', St F W0 w' bs ks → Q ex a w') : Q ex a w := h _ hS
def pv (p : Option Addr × List Int × Nat) : Value := .slice p.1 p.2.1.length p.2.2
theorem Try.size5 : (Try.prog.info? 5).map (·.size) = some 1 := by kernel_rfl
theorem Try.size36 : (Try.prog.info? 36).map (·.size) = some 1 := by kernel_rfl
theorem St.names2 {F : Nat → Prop} {W0 w : World} {b1 b2 t1 t2 : Nat} {c1 c2 : List Value} {ks : List Fact} (h : St F W0 w [(b1, t1, c1), (b2, t2, c2)] ks) : ∃ x y, x = b1 ∧ y = b2 := ⟨_, _, rfl, rfl⟩
theorem St.names3 {F : Nat → Prop} {W0 w : World} {b1 b2 b3 t1 t2 t3 : Nat} {c1 c2 c3 : List Value} {ks : List Fact} (h : St F W0 w [(b1, t1, c1), (b2, t2, c2), (b3, t3, c3)] ks) : ∃ x, x = b1 := ⟨_, rfl⟩
theorem St.app2 {F : Nat → Prop} {W0 w w9 : World} {bs : List Blk} {ks ks' : List Fact} {v1 v2 v' : Value} {L M : List (Ac × Value)} (hS : St F W0 w bs ks) (h1 : actsF v1 L ∈ ks) (h2 : actsF v2 M ∈ ks) (hfr : Fresh W0.heap.size v1)
    (hown : w9.ownsRow 0 24 3 v' (L.length + M.length) (acVs L ++ acVs M)) (x : Ext (Bk v1) w w9) (hks : ∀ f ∈ ks', f ∈ ks ∧ ∀ k, f.foot k → ¬ Bk v1 k) (ht : ∀ x ∈ bs, x.2.1 ≠ 3 ∧ x.2.1 ≠ 24) : St F W0 w9 bs (actsF v' (L ++ M) :: ks') := by
  have a1 : Acts w v1 L := hS.get _ h1
  have a2 : Acts w v2 M := hS.get _ h2
  refine ((hS.drop (fun f hf => (hks f hf).1)).step x (fun y hy hk => ?_) (fun f hf k hk hk2 => (hks f hf).2 k hk hk2) (fun k hk => Or.inr (hfr k hk))).acts (acts_app a1 a2 hown x) ht
  exact (hS.kept _ h1).2 y.1 (Or.inl hk) ⟨y, hy, rfl⟩
theorem apart_own {w : World} {v1 v : Value} {L : List (Ac × Value)} {t size n : Nat} {xs : List Value} (a1 : Acts w v1 L) (h : w.ownsRow 0 t size v n xs) (ht : t ≠ 24) : ∀ k, (own1 t size v n xs).foot k → ¬ Bk v1 k := fun k hk => own_ne2 h a1.own ht k hk
/-- The pieces, one behind the other. -/
theorem pieces_of (T : List Int) (at_ : Option Addr) (ct lo hi : Nat) (h1 : lo ≤ hi) (h2 : hi ≤ T.length) (hc : T.length ≤ ct) :
    ∃ ps : List (Option Addr × List Int × Nat), ps.length = 3 ∧ [Value.slice (cutA at_ ct 0) lo ct, .slice (cutA at_ ct lo) (hi - lo) (ct - lo), .slice (cutA at_ ct hi) (T.length - hi) (ct - hi)] = ps.map pv ∧
      (∀ w, Rd .u8 w at_ T → ∀ p ∈ ps, Rd .u8 w p.1 p.2.1) ∧ (ps.map (·.2.1)).flatten = T := by
  refine ⟨[(cutA at_ ct 0, (T.drop 0).take lo, ct), (cutA at_ ct lo, (T.drop lo).take (hi - lo), ct - lo), (cutA at_ ct hi, (T.drop hi).take (T.length - hi), ct - hi)], rfl, ?_, fun w hr p hp => ?_, ?_⟩
  · simp only [List.map_cons, List.map_nil, pv, List.length_take, List.length_drop]
    rw [Nat.min_eq_left (by omega), Nat.min_eq_left (by omega), Nat.min_eq_left (by omega)]
  · simp only [List.mem_cons, List.not_mem_nil, or_false] at hp
    rcases hp with rfl | rfl | rfl
    · exact hr.cut hc
    · exact hr.cut hc
    · exact hr.cut hc
  · simp only [List.map_cons, List.map_nil, List.flatten_cons, List.flatten_nil, List.append_nil, List.drop_zero]
    rw [← List.append_assoc]
    have e : T.take lo ++ (T.drop lo).take (hi - lo) = T.take hi := by
      rw [show hi = lo + (hi - lo) from by omega, List.take_add, show lo + (hi - lo) - lo = hi - lo from by omega]
    have e2 : (T.drop hi).take (T.length - hi) = T.drop hi := List.take_of_length_le (by simp)
    rw [e, e2, List.take_append_drop]
theorem piece_in (ps : List (Option Addr × List Int × Nat)) (T : List Int) (h : (ps.map (·.2.1)).flatten = T) (p : Option Addr × List Int × Nat) (hp : p ∈ ps) : List.Sublist p.2.1 T := by
  rw [← h]
  exact List.sublist_flatten_of_mem (List.mem_map_of_mem hp)
theorem pre_in (ps : List (Option Addr × List Int × Nat)) (T : List Int) (h : (ps.map (·.2.1)).flatten = T) (k : Nat) (hk : k < ps.length) (p : Option Addr × List Int × Nat) (hp : ps[k] = p) :
    List.Sublist ((ps.take k).map (·.2.1)).flatten T ∧ ((ps.take (k + 1)).map (·.2.1)).flatten = ((ps.take k).map (·.2.1)).flatten ++ p.2.1 := by
  refine ⟨?_, ?_⟩
  · have e : ((ps.take k).map (·.2.1)).flatten ++ ((ps.drop k).map (·.2.1)).flatten = T := by
      rw [← List.flatten_append, ← List.map_append, List.take_append_drop, h]
    rw [← e]
    exact List.sublist_append_left _ _
  · rw [List.take_succ_eq_append_getElem hk, List.map_append, List.flatten_append, hp]
    simp
theorem Fresh.appn {n : Nat} {w : World} {v v' : Value} (h : Fresh n v) (hs : n ≤ w.heap.size) (hat : ∀ k, Bk v' k → Bk v k ∨ k = w.heap.size) : Fresh n v' := fun k hk => by
  rcases hat k hk with h1 | h1
  · exact h k h1
  · omega
attribute [local go_sem] i64_and65535'
set_option maxHeartbeats 2000000 in
set_option maxRecDepth 100000 in
theorem parts_a (w : World) (zs xs : List Int) (ra la : Option Addr) (rc lc : Nat) (a b : Int) (hr : Rd .u8 w ra zs) (hz : zs.length ≤ 500) (hl : Rd .i64 w la xs) (hl2 : xs.length ≤ maxLen) (T : List Int) (hT0 : T = mbytes xs ++ zs) (hT1 : ∀ z ∈ T, 0 ≤ z ∧ z ≤ 255)
    (s1 : Es) (X1 : List Ac) (h1 : mfeed T ez [] = (s1, X1)) (lo hi : Nat) (hA : a % 65536 % ((T.length : Int) + 1) = (lo : Int)) (hB : b % 65536 % ((T.length : Int) + 1) = (hi : Int)) (hlt : lo < hi) (hh : hi ≤ T.length) :
    Calls Try.prog 7 #[.slice ra zs.length rc, .slice la xs.length lc, .int .i64 a, .int .i64 b] w fun e w' => e = .returned (.bool true) ∧ New w w' := by
  have hS : St (fun _ => False) w w [] [] := St.init w
  replace hS := Lib.hid hS
  have hml := mbytes_len xs
  have hlh : lo ≤ hi := by omega
  have hTl : (mbytes xs).length + zs.length = T.length := by rw [hT0]; simp
  have hTv : bytesV (mbytes xs) ++ bytesV zs = bytesV T := by rw [hT0, bytesV_append]
  have hTn : T.length ≤ 1220 := by omega
  have hT := Lib.hid (And.intro hT1 (show T.length ≤ 100000 by omega))
  have g500 : decide ((500 : Int) < (zs.length : Int)) = false := decide_eq_false (by omega)
  replace hr := Lib.hid hr
  replace hl := Lib.hid hl
  replace hl2 := Lib.hid hl2
  replace hTl := Lib.hid hTl
  replace hTv := Lib.hid hTv
  replace h1 := Lib.hid h1
  clear hT0 hT1
  have q1 : 0 ≤ a % 65536 := by omega
  have q2 : a % 65536 < 65536 := by omega
  have q3 : 0 ≤ b % 65536 := by omega
  have q4 : b % 65536 < 65536 := by omega
  have tb1 : True := trivial
  have ta1 : True := trivial
  have tf1 : True := trivial
  go_enter Try.func7, Try.ntmps7
  go_wp2_with (first
    | (refine wl_made (bs := []) (t := 33) hS.out ?_; intro wB hS9; replace hS := Lib.hid hS9; clear hS9)
    | (refine wl_made (t := 33) hS.out ?_; intro w9 hS9; replace hS := Lib.hid hS9; clear hS9)
    | (refine wl_loadAll (T := 33) hS.out (by rfl) rfl (by rfl) Try.underlying33 rfl Try.size33 (by repeat (first | exact At.here | apply At.there)) (by rfl) ?_)
    | (refine wl_storeAll (T := 33) hS.out (by rfl) rfl (by rfl) (by rfl) (by exact Try.size33) (by repeat (first | exact At.here | apply At.there)) (by rfl) (by rfl) ?_; intro w9 hS9; replace hS := Lib.hid hS9; clear hS9)
    | (go_at_call 16; have _t := tb1; refine (bytes_ _ xs la lc (hl.out.new hS.out.isNew) hl2.out).mono ?_; clear _t tb1; rintro e w9 ⟨⟨ta, tc, rfl, ho, hfr⟩, x⟩; replace hS := Lib.hid ((hS.out.call x).own ho (by simp)); clear x ho; replace hfr := Lib.hid hfr)
    | (at_builtin; have _t := ta1; refine wl_append hS.out (by rfl) rfl Try.underlying36 Try.info5 rfl (by decide) (v := .slice ta (mbytes xs).length tc) (by rfl) (hS.out.get (bytesF (.slice ta (mbytes xs).length tc) (mbytes xs)) (by simp)) (xv := .slice ra zs.length rc) (by rfl) (src_rd (hr.out.new hS.out.isNew)) (by unfold maxLen; omega) (by omega) ?_; clear _t ta1; intro v9 w9 hown Xg hat; rw [hTl.out, hTv.out] at hown; replace hS := Lib.hid ((hS.out.app0 (own1 5 1 (.slice ta (mbytes xs).length tc) (mbytes xs).length (bytesV (mbytes xs))) (List.Mem.head _) hfr.out Xg).own hown (by simp)); obtain ⟨at_, ct, rfl⟩ := own_form hown; have hcap := Lib.hid (own_cap hown); clear hown Xg hat)
    | (go_at_call 11; have _t := tf1; refine (feed_r _ ez T (s1, X1) none at_ 0 ct (Ints.nil _) (rd_bytes (hS.out.get (bytesF (.slice at_ T.length ct) T) (by simp))) hT.out.1 hT.out.2 ez_wf h1.out).mono ?_; clear _t tf1; rintro e w9 ⟨⟨a1, c1, b1, d1, L1, rfl, hI, hL, hq1⟩, x⟩; replace hS := Lib.hid (((hS.out.call x).own hI (by simp)).acts hL (by simp)); clear x hI hL; replace hq1 := Lib.hid hq1))
  go_quiet (fail)
  refine absorb_Q (hS.out.drewN nq) ?_
  simp only [hA, hB]
  clear hA hB q1 q2 q3 q4
  intro w9 hS9; replace hS := Lib.hid hS9; clear hS9
  go_wp2_with (first
    | (refine wl_made (bs := []) (t := 33) hS.out ?_; intro wB hS9; replace hS := Lib.hid hS9; clear hS9)
    | (refine wl_made (t := 33) hS.out ?_; intro w9 hS9; replace hS := Lib.hid hS9; clear hS9)
    | (refine wl_loadAll (T := 33) hS.out (by rfl) rfl (by rfl) Try.underlying33 rfl Try.size33 (by repeat (first | exact At.here | apply At.there)) (by rfl) ?_)
    | (refine wl_storeAll (T := 33) hS.out (by rfl) rfl (by rfl) (by rfl) (by exact Try.size33) (by repeat (first | exact At.here | apply At.there)) (by rfl) (by rfl) ?_; intro w9 hS9; replace hS := Lib.hid hS9; clear hS9)
    | (go_at_call 11; have _t := tf1; refine (feed_r _ ez T (s1, X1) none at_ 0 ct (Ints.nil _) (rd_bytes (hS.out.get (bytesF (.slice at_ T.length ct) T) (by simp))) hT.out.1 hT.out.2 ez_wf h1.out).mono ?_; clear _t tf1; rintro e w9 ⟨⟨a1, c1, b1, d1, L1, rfl, hI, hL, hq1⟩, x⟩; replace hS := Lib.hid (((hS.out.call x).own hI (by simp)).acts hL (by simp)); clear x hI hL; replace hq1 := Lib.hid hq1))
  all_goals
    obtain ⟨B2, B1, e1, e2⟩ := hS.out.names2
    rw [← e1, ← e2] at hS
    rw [← e1, ← e2]
    replace e1 := Lib.hid e1
    replace e2 := Lib.hid e2
    have c0 : lo ≤ ct := by have := hcap.out; omega
    have c1_ : hi ≤ ct := by have := hcap.out; omega
    refine region_St0 hS.out (fun _ => true) (by kernel_rfl) ?_
    intro w9 hR hS9; replace hS := Lib.hid hS9; clear hS9
    refine wpJ_take 0 (oi := { dst := some 53, op := Op.move (Operand.tmp 9), type := 36, pos := "law.go:58", after := #[], guard := none }) rfl (by kernel_rfl) (by kernel_rfl) (fun _ _ _ h => h) hR (y_move (by rfl) rfl (by rfl)) (fun _ => ?_)
    try simp only [Act.put, Act.eval, Array.getD_eq_getD_getElem?, List.getElem?_toArray, List.getElem?_cons_succ, List.getElem?_cons_zero, Option.getD_some, List.setIfInBounds_toArray, List.set_cons_zero, List.set_cons_succ]
    refine wpJ_take 1 (oi := { dst := some 54, op := Op.move (Operand.tmp 10), type := 3, pos := "law.go:58", after := #[], guard := none }) rfl (by kernel_rfl) (by kernel_rfl) (fun _ _ _ h => h) hR (y_move (by rfl) rfl (by rfl)) (fun _ => ?_)
    try simp only [Act.put, Act.eval, Array.getD_eq_getD_getElem?, List.getElem?_toArray, List.getElem?_cons_succ, List.getElem?_cons_zero, Option.getD_some, List.setIfInBounds_toArray, List.set_cons_zero, List.set_cons_succ]
    refine wpJ_take 2 (oi := { dst := some 55, op := Op.slice 36 (Operand.tmp 53) none (some (Operand.tmp 54)) none, type := 36, pos := "law.go:58", after := #[{ on := 0, ground := Ground.data }, { on := 1, ground := Ground.data }], guard := none }) rfl (by kernel_rfl) (by kernel_rfl) (fun _ _ _ h => h) hR (y_slice_to (by rfl) rfl Try.underlying36 Try.size5 (by rfl) (by rfl) c0) (fun _ => ?_)
    try simp only [Act.put, Act.eval, Array.getD_eq_getD_getElem?, List.getElem?_toArray, List.getElem?_cons_succ, List.getElem?_cons_zero, Option.getD_some, List.setIfInBounds_toArray, List.set_cons_zero, List.set_cons_succ]
    refine wpJ_take 3 (oi := { dst := some 56, op := Op.move (Operand.tmp 9), type := 36, pos := "law.go:58", after := #[], guard := none }) rfl (by kernel_rfl) (by kernel_rfl) (fun _ _ _ h => h) hR (y_move (by rfl) rfl (by rfl)) (fun _ => ?_)
    try simp only [Act.put, Act.eval, Array.getD_eq_getD_getElem?, List.getElem?_toArray, List.getElem?_cons_succ, List.getElem?_cons_zero, Option.getD_some, List.setIfInBounds_toArray, List.set_cons_zero, List.set_cons_succ]
    refine wpJ_take 4 (oi := { dst := some 57, op := Op.move (Operand.tmp 10), type := 3, pos := "law.go:58", after := #[], guard := none }) rfl (by kernel_rfl) (by kernel_rfl) (fun _ _ _ h => h) hR (y_move (by rfl) rfl (by rfl)) (fun _ => ?_)
    try simp only [Act.put, Act.eval, Array.getD_eq_getD_getElem?, List.getElem?_toArray, List.getElem?_cons_succ, List.getElem?_cons_zero, Option.getD_some, List.setIfInBounds_toArray, List.set_cons_zero, List.set_cons_succ]
    refine wpJ_take 5 (oi := { dst := some 58, op := Op.move (Operand.tmp 11), type := 3, pos := "law.go:58", after := #[], guard := none }) rfl (by kernel_rfl) (by kernel_rfl) (fun _ _ _ h => h) hR (y_move (by rfl) rfl (by rfl)) (fun _ => ?_)
    try simp only [Act.put, Act.eval, Array.getD_eq_getD_getElem?, List.getElem?_toArray, List.getElem?_cons_succ, List.getElem?_cons_zero, Option.getD_some, List.setIfInBounds_toArray, List.set_cons_zero, List.set_cons_succ]
    refine wpJ_take 6 (oi := { dst := some 59, op := Op.slice 36 (Operand.tmp 56) (some (Operand.tmp 57)) (some (Operand.tmp 58)) none, type := 36, pos := "law.go:58", after := #[{ on := 3, ground := Ground.data }, { on := 4, ground := Ground.data }, { on := 5, ground := Ground.data }], guard := none }) rfl (by kernel_rfl) (by kernel_rfl) (fun _ _ _ h => h) hR (y_slice2 (by rfl) rfl Try.underlying36 Try.size5 (by rfl) (by rfl) (by rfl) hlh c1_) (fun _ => ?_)
    try simp only [Act.put, Act.eval, Array.getD_eq_getD_getElem?, List.getElem?_toArray, List.getElem?_cons_succ, List.getElem?_cons_zero, Option.getD_some, List.setIfInBounds_toArray, List.set_cons_zero, List.set_cons_succ]
    refine wpJ_take 7 (oi := { dst := some 60, op := Op.move (Operand.tmp 9), type := 36, pos := "law.go:58", after := #[], guard := none }) rfl (by kernel_rfl) (by kernel_rfl) (fun _ _ _ h => h) hR (y_move (by rfl) rfl (by rfl)) (fun _ => ?_)
    try simp only [Act.put, Act.eval, Array.getD_eq_getD_getElem?, List.getElem?_toArray, List.getElem?_cons_succ, List.getElem?_cons_zero, Option.getD_some, List.setIfInBounds_toArray, List.set_cons_zero, List.set_cons_succ]
    refine wpJ_take 8 (oi := { dst := some 61, op := Op.move (Operand.tmp 11), type := 3, pos := "law.go:58", after := #[], guard := none }) rfl (by kernel_rfl) (by kernel_rfl) (fun _ _ _ h => h) hR (y_move (by rfl) rfl (by rfl)) (fun _ => ?_)
    try simp only [Act.put, Act.eval, Array.getD_eq_getD_getElem?, List.getElem?_toArray, List.getElem?_cons_succ, List.getElem?_cons_zero, Option.getD_some, List.setIfInBounds_toArray, List.set_cons_zero, List.set_cons_succ]
    refine wpJ_take 9 (oi := { dst := some 62, op := Op.slice 36 (Operand.tmp 60) (some (Operand.tmp 61)) none none, type := 36, pos := "law.go:58", after := #[{ on := 7, ground := Ground.data }, { on := 8, ground := Ground.data }], guard := none }) rfl (by kernel_rfl) (by kernel_rfl) (fun _ _ _ h => h) hR (y_slice_from (by rfl) rfl Try.underlying36 Try.size5 (by rfl) (by rfl) hh) (fun _ => ?_)
    try simp only [Act.put, Act.eval, Array.getD_eq_getD_getElem?, List.getElem?_toArray, List.getElem?_cons_succ, List.getElem?_cons_zero, Option.getD_some, List.setIfInBounds_toArray, List.set_cons_zero, List.set_cons_succ]
    refine wpJ_take 12 (oi := { dst := some 65, op := Op.move (Operand.const (Value.int IntKind.i64 0)), type := 3, pos := "law.go:58", after := #[], guard := none }) rfl (by kernel_rfl) (by kernel_rfl) (fun _ _ _ h => h) hR (y_move (by rfl) rfl (by rfl)) (fun _ => ?_)
    try simp only [Act.put, Act.eval, Array.getD_eq_getD_getElem?, List.getElem?_toArray, List.getElem?_cons_succ, List.getElem?_cons_zero, Option.getD_some, List.setIfInBounds_toArray, List.set_cons_zero, List.set_cons_succ]
    refine wpJ_one 10 (oi := { dst := some 63, op := Op.buildSlice 44 3 #[(0, Operand.tmp 55), (1, Operand.tmp 59), (2, Operand.tmp 62)], type := 44, pos := "law.go:58", after := #[{ on := 2, ground := Ground.data }, { on := 6, ground := Ground.data }, { on := 9, ground := Ground.data }], guard := none }) rfl (by kernel_rfl) ?_
    intro K hK
    refine sw (by rfl) ?_
    refine st_made hS.out (by go_simp; (first | done | exact ⟨rfl, rfl⟩)) ?_
    intro w9 hS9; replace hS := Lib.hid hS9; clear hS9
    refine hK _ _ (fun _ => (by repeat (first | exact rows_nil _ | refine rows_here hS.out (by repeat (first | exact At.here | apply At.there)) ?_))) ?_
    clear hK K
    replace hR := rows_of hR w9 (by repeat (first | exact rows_nil _ | refine rows_here hS.out (by repeat (first | exact At.here | apply At.there)) ?_))
    try simp only [Act.put, Act.eval, Array.getD_eq_getD_getElem?, List.getElem?_toArray, List.getElem?_cons_succ, List.getElem?_cons_zero, Option.getD_some, List.setIfInBounds_toArray, List.set_cons_zero, List.set_cons_succ]
    refine wpJ_take 11 (oi := { dst := some 64, op := Op.call { callee := Callee.builtin Builtin.len, args := #[Operand.tmp 63], argTypes := #[44] }, type := 3, pos := "law.go:58", after := #[{ on := 10, ground := Ground.data }], guard := none }) rfl (by kernel_rfl) (by kernel_rfl) (fun _ _ _ h => h) hR (Or.inl ⟨by rfl, (by intro W hW; clear hW; go_simp; (first | done | with_reducible rfl))⟩) (fun _ => ?_)
    try simp only [Act.put, Act.eval, Array.getD_eq_getD_getElem?, List.getElem?_toArray, List.getElem?_cons_succ, List.getElem?_cons_zero, Option.getD_some, List.setIfInBounds_toArray, List.set_cons_zero, List.set_cons_succ]
    refine wpJ_done _ (by kernel_rfl) ?_
    go_wp2_with fail
    obtain ⟨B3, e3⟩ := hS.out.names3
    rw [← e3] at hS
    rw [← e3]
    replace e3 := Lib.hid e3
    obtain ⟨ps, hp3, hpc, hprd, hpT⟩ := pieces_of T at_ ct lo hi hlh hh hcap.out
    first | rw [hpc] at hS | (simp only [Nat.sub_self] at hpc; rw [hpc] at hS)
    clear hpc
    replace hprd := Lib.hid hprd
    replace hpT := Lib.hid hpT
    replace hp3 := Lib.hid hp3
    try simp only [Nat.sub_self]
    go_loopw [14, 65] (fun v i wr => ∃ (k : Nat) (u : Es) (L : List (Ac × Value)) (a' : Option Addr) (c' : Nat) (b2 : Option Addr) (d2 : Nat), k ≤ 3 ∧ i = .int .i64 k ∧ v = .slice b2 L.length d2 ∧ Hid (St (fun _ => False) w wr [(B3, 36, ps.map pv), (B2, 33, [.int .i64 u.m, .int .i64 u.nd, .int .i64 u.mn, .int .i64 u.gt, .slice a' u.par.length c', .int .i64 u.nu, .bool u.pv, .bool u.sk]), (B1, 33, [.int .i64 s1.m, .int .i64 s1.nd, .int .i64 s1.mn, .int .i64 s1.gt, .slice a1 s1.par.length c1, .int .i64 s1.nu, .bool s1.pv, .bool s1.sk])] [intsF (.slice a' u.par.length c') u.par, actsF (.slice b2 L.length d2) L, actsF (.slice b1 L1.length d1) L1, own1 3 1 (.slice a1 s1.par.length c1) s1.par.length (ints s1.par), own1 5 1 (.slice at_ T.length ct) T.length (bytesV T)]) ∧ Hid (Fresh w.heap.size (.slice b2 L.length d2)) ∧ Hid (∀ k, (actsF (.slice b1 L1.length d1) L1).foot k → ¬ Bk (.slice b2 L.length d2) k) ∧ Hid (mfeed ((ps.take k).map (·.2.1)).flatten ez [] = (u, acs L)) ∧ Hid (Wf u)) (fun _ i _ => 3 - (intOf i).toNat)
    case atStart => exact ⟨0, ez, [], none, 0, none, 0, by omega, rfl, rfl, Lib.hid (St.drop ((hS.out.own (t := 3) (size := 1) (v := .slice none 0 0) (n := 0) (xs := []) (World.ownsRow_nil _ _ _ _) (by simp)).acts (Acts.nil _) (by simp)) (by intro f hf; simp only [List.mem_cons, List.not_mem_nil, or_false] at hf; (repeat' (rcases hf with hf | hf)); all_goals ((try subst hf); first | exact List.Mem.head _ | exact List.Mem.tail _ (List.Mem.head _) | exact List.Mem.tail _ (List.Mem.tail _ (List.Mem.head _)) | exact List.Mem.tail _ (List.Mem.tail _ (List.Mem.tail _ (List.Mem.head _))) | exact List.Mem.tail _ (List.Mem.tail _ (List.Mem.tail _ (List.Mem.tail _ (List.Mem.head _)))) | exact List.Mem.tail _ (List.Mem.tail _ (List.Mem.tail _ (List.Mem.tail _ (List.Mem.tail _ (List.Mem.head _)))))))), Lib.hid (Fresh.nil _), Lib.hid (fun k _ h => by simp [Bk, Value.ownBlock] at h), Lib.hid rfl, Lib.hid ez_wf⟩
    case round =>
      obtain ⟨k, u, L, a', c', b2, d2, hk, rfl, rfl, hS, hfr2, hdj, hm, hwu⟩ := hrel
      by_cases hk3 : k < 3
      · have hkl : k < ps.length := by rw [hp3.out]; exact hk3
        obtain ⟨p, hp⟩ : ∃ p, ps[k] = p := ⟨_, rfl⟩
        have hpm : p ∈ ps := by rw [← hp]; exact List.getElem_mem hkl
        have hrp := hprd.out wr (rd_bytes (hS.out.get (bytesF (.slice at_ T.length ct) T) (by simp))) p hpm
        have hvp : (ps.map pv)[k]? = some (pv p) := by simp [hkl, hp]
        have hsp := piece_in ps T hpT.out p hpm
        obtain ⟨hpre, hnext⟩ := pre_in ps T hpT.out k hkl p hp
        have hbd := hT.out.1
        have w1 := wf_feed ((ps.take k).map (·.2.1)).flatten (fun x hx => hbd x (hpre.subset hx)) ez [] ez_wf
        rw [hm.out] at w1
        have hLb : L.length ≤ 2440 := by have := w1.2; have := hpre.length_le; simp [acs] at this w1; omega
        obtain ⟨pa, pz, pc⟩ := p
        simp only at hrp hsp hnext
        obtain ⟨u2, M2, hf⟩ : ∃ u2 M2, mfeed pz u [] = (u2, M2) := ⟨_, _, rfl⟩
        have hpz : ∀ z ∈ pz, 0 ≤ z ∧ z ≤ 255 := fun z hz => hbd z (hsp.subset hz)
        have hpn : pz.length ≤ 1220 := Nat.le_trans hsp.length_le hTn
        have w2 := wf_feed pz hpz u [] hwu.out
        rw [hf] at w2
        have hMb : M2.length ≤ 2440 := by have := w2.2; simp at this; omega
        have hm2 : mfeed ((ps.take (k + 1)).map (·.2.1)).flatten ez [] = (u2, acs L ++ M2) := by
          rw [hnext, mfeed_append, hm.out, mfeed_out, hf]
        have hwu2 := Lib.hid w2.1
        clear w1 w2 hpre hnext hbd hp hpm hm hsp hkl
        replace hrp := Lib.hid hrp
        replace hvp := Lib.hid hvp
        replace hf := Lib.hid hf
        replace hm2 := Lib.hid hm2
        replace hpz := Lib.hid hpz
        have tf2 : True := trivial
        go_wp2_with (first
    | (refine wl_made (bs := []) (t := 33) hS.out ?_; intro wB hS9; replace hS := Lib.hid hS9; clear hS9)
    | (refine wl_made (t := 33) hS.out ?_; intro w9 hS9; replace hS := Lib.hid hS9; clear hS9)
    | (refine wl_loadAll (T := 33) hS.out (by rfl) rfl (by rfl) Try.underlying33 rfl Try.size33 (by repeat (first | exact At.here | apply At.there)) (by rfl) ?_)
    | (refine wl_storeAll (T := 33) hS.out (by rfl) rfl (by rfl) (by rfl) (by exact Try.size33) (by repeat (first | exact At.here | apply At.there)) (by rfl) (by rfl) ?_; intro w9 hS9; replace hS := Lib.hid hS9; clear hS9)
    | (refine wl_load1 (T := 36) (v := .slice pa pz.length pc) hS.out (by rfl) rfl (by rfl) Try.underlying36 rfl (by repeat (first | exact At.here | apply At.there)) hvp.out ?_)
    | (go_at_call 11; have _t := tf2; refine (feed_r _ u pz (u2, M2) a' pa c' pc (hS.out.get (intsF (.slice a' u.par.length c') u.par) (by simp)) hrp.out hpz.out (by omega) hwu.out hf.out).mono ?_; clear _t tf2; rintro e w9 ⟨⟨a3, c3, b3, d3, M, rfl, hI, hM, hq2⟩, x⟩; replace hS := Lib.hid (((hS.out.call x).own hI (by simp)).acts hM (by simp)); clear x hI hM; replace hq2 := Lib.hid hq2))
        refine region_St1 hS.out 0 (fun _ => true) (by kernel_rfl) (by rfl) ?_
        intro w9 hR hS9; replace hS := Lib.hid hS9; clear hS9
        refine wpJ_take 0 (oi := { dst := some 75, op := Op.load 33 (Operand.tmp 18), type := 33, pos := "law.go:60", after := #[], guard := none }) rfl (by kernel_rfl) (by kernel_rfl) (fun _ _ _ h => h) hR (y_loadAll (T := 33) (by rfl) rfl (by rfl) Try.underlying33 rfl Try.size33 (by repeat (first | exact At.here | apply At.there)) (by rfl)) (fun _ => ?_)
        try simp only [Act.put, Act.eval, Array.getD_eq_getD_getElem?, List.getElem?_toArray, List.getElem?_cons_succ, List.getElem?_cons_zero, Option.getD_some, List.setIfInBounds_toArray, List.set_cons_zero, List.set_cons_succ]
        refine wpJ_take 1 (oi := { dst := some 76, op := Op.move (Operand.tmp 14), type := 27, pos := "law.go:60", after := #[], guard := none }) rfl (by kernel_rfl) (by kernel_rfl) (fun _ _ _ h => h) hR (y_move (by rfl) rfl (by rfl)) (fun _ => ?_)
        try simp only [Act.put, Act.eval, Array.getD_eq_getD_getElem?, List.getElem?_toArray, List.getElem?_cons_succ, List.getElem?_cons_zero, Option.getD_some, List.setIfInBounds_toArray, List.set_cons_zero, List.set_cons_succ]
        refine wpJ_take 2 (oi := { dst := some 77, op := Op.move (Operand.tmp 19), type := 27, pos := "law.go:60", after := #[], guard := none }) rfl (by kernel_rfl) (by kernel_rfl) (fun _ _ _ h => h) hR (y_move (by rfl) rfl (by rfl)) (fun _ => ?_)
        try simp only [Act.put, Act.eval, Array.getD_eq_getD_getElem?, List.getElem?_toArray, List.getElem?_cons_succ, List.getElem?_cons_zero, Option.getD_some, List.setIfInBounds_toArray, List.set_cons_zero, List.set_cons_succ]
        refine wpJ_one 3 (oi := { dst := some 78, op := Op.call { callee := Callee.builtin Builtin.append, args := #[Operand.tmp 76, Operand.tmp 77], argTypes := #[27, 27] }, type := 27, pos := "law.go:60", after := #[{ on := 1, ground := Ground.data }, { on := 2, ground := Ground.data }], guard := none }) rfl (by kernel_rfl) ?_
        intro K hK
        refine sw (by rfl) ?_
        have hM1 : M.length ≤ 2440 := by have := congrArg List.length hq2.out; simp only [acs_len] at this; omega
        refine st_append hS.out rfl Try.underlying27 Try.info24 rfl (by decide) (v := .slice b2 L.length d2) (by rfl) (hS.out.get (actsF (.slice b2 L.length d2) L) (by simp)).own (xv := .slice b3 M.length d3) (by rfl) (Src.own Try.underlying27 (hS.out.get (actsF (.slice b3 M.length d3) M) (by simp)).own (Acts.one' (hS.out.get (actsF (.slice b3 M.length d3) M) (by simp)).par)) (by unfold maxLen; omega) (by omega) ?_
        intro v9 w9 hown Xg hat
        obtain ⟨b4, d4, rfl⟩ := own_form hown
        have hfr3 := Lib.hid (hfr2.out.app hS.out.ext.size hat)
        have hdj3 := Lib.hid (fun k (hk : (actsF (.slice b1 L1.length d1) L1).foot k) (h : Bk (.slice b4 (L.length + M.length) d4) k) => (hat k h).elim (hdj.out k hk) (fun e => Nat.ne_of_lt ((actsF (.slice b1 L1.length d1) L1).lt _ (hS.out.get (actsF (.slice b1 L1.length d1) L1) (by simp)) k hk) e))
        have hA1 : Acts _ (.slice b2 L.length d2) L := (hS.out.get (actsF (.slice b2 L.length d2) L) (by simp))
        have hI2 := hS.out.get (intsF (.slice a3 u2.par.length c3) u2.par) (by simp)
        have hI3 := hS.out.get (own1 3 1 (.slice a1 s1.par.length c1) s1.par.length (ints s1.par)) (by simp)
        have hI4 := hS.out.get (own1 5 1 (.slice at_ T.length ct) T.length (bytesV T)) (by simp)
        replace hS := Lib.hid (hS.out.app2 (v1 := .slice b2 L.length d2) (v2 := .slice b3 M.length d3) (ks' := [intsF (.slice a3 u2.par.length c3) u2.par, actsF (.slice b1 L1.length d1) L1, own1 3 1 (.slice a1 s1.par.length c1) s1.par.length (ints s1.par), own1 5 1 (.slice at_ T.length ct) T.length (bytesV T)]) (by simp) (by simp) hfr2.out hown Xg (by intro f hf; simp only [List.mem_cons, List.not_mem_nil, or_false] at hf; rcases hf with rfl | rfl | rfl | rfl <;> first | exact ⟨by simp, hdj.out⟩ | exact ⟨by simp, apart_own hA1 hI2 (by decide)⟩ | exact ⟨by simp, apart_own hA1 hI3 (by decide)⟩ | exact ⟨by simp, apart_own hA1 hI4 (by decide)⟩) (by simp))
        clear hown Xg hat hA1 hI2 hI3 hI4
        refine hK _ _ (fun _ => (by repeat (first | exact rows_nil _ | refine rows_here hS.out (by repeat (first | exact At.here | apply At.there)) ?_))) ?_
        clear hK K
        replace hR := rows_of hR w9 (by repeat (first | exact rows_nil _ | refine rows_here hS.out (by repeat (first | exact At.here | apply At.there)) ?_))
        try simp only [Act.put, Act.eval, Array.getD_eq_getD_getElem?, List.getElem?_toArray, List.getElem?_cons_succ, List.getElem?_cons_zero, Option.getD_some, List.setIfInBounds_toArray, List.set_cons_zero, List.set_cons_succ]
        refine wpJ_one 4 (oi := { dst := none, op := Op.store 33 (Operand.tmp 15) (Operand.tmp 75), type := 0, pos := "law.go:60", after := #[{ on := 0, ground := Ground.data }, { on := 3, ground := Ground.chain }, { on := 0, ground := Ground.phase }, { on := 1, ground := Ground.textOnly Departure.lateStores }, { on := 2, ground := Ground.textOnly Departure.lateStores }, { on := 3, ground := Ground.textOnly Departure.lateStoresUnsure }], guard := none }) rfl (by kernel_rfl) ?_
        intro K hK
        refine sw (by rfl) ?_
        refine st_storeAll (T := 33) hS.out rfl (by rfl) (by rfl) (by exact Try.size33) (by repeat (first | exact At.here | apply At.there)) (by rfl) (by rfl) ?_; intro w9 hS9; replace hS := Lib.hid hS9; clear hS9
        refine hK _ _ (fun _ => (by repeat (first | exact rows_nil _ | refine rows_here hS.out (by repeat (first | exact At.here | apply At.there)) ?_))) ?_
        clear hK K
        replace hR := rows_of hR w9 (by repeat (first | exact rows_nil _ | refine rows_here hS.out (by repeat (first | exact At.here | apply At.there)) ?_))
        try simp only [Act.put, Act.eval, Array.getD_eq_getD_getElem?, List.getElem?_toArray, List.getElem?_cons_succ, List.getElem?_cons_zero, Option.getD_some, List.setIfInBounds_toArray, List.set_cons_zero, List.set_cons_succ]
        refine wpJ_take 5 (oi := { dst := some 14, op := Op.assign (Operand.tmp 78), type := 27, pos := "law.go:60", after := #[{ on := 3, ground := Ground.data }, { on := 4, ground := Ground.chain }, { on := 0, ground := Ground.phase }, { on := 1, ground := Ground.phase }, { on := 2, ground := Ground.phase }, { on := 3, ground := Ground.phase }, { on := 4, ground := Ground.phase }], guard := none }) rfl (by kernel_rfl) (by kernel_rfl) (fun _ _ _ h => h) hR (y_assign (by rfl) rfl (by rfl)) (fun _ => ?_)
        try simp only [Act.put, Act.eval, Array.getD_eq_getD_getElem?, List.getElem?_toArray, List.getElem?_cons_succ, List.getElem?_cons_zero, Option.getD_some, List.setIfInBounds_toArray, List.set_cons_zero, List.set_cons_succ]
        refine wpJ_done _ (by kernel_rfl) ?_
        go_wp2_with fail
        go_roundw
        case rel => exact ⟨k + 1, u2, L ++ M, a3, c3, b4, d4, by omega, by go_num, by simp, Lib.hid (by rw [List.length_append]; exact St.drop (hS.out.forget (List.sublist_cons_self _ _)) (by intro f hf; simp only [List.mem_cons, List.not_mem_nil, or_false] at hf; (repeat' (rcases hf with hf | hf)); all_goals ((try subst hf); first | exact List.Mem.head _ | exact List.Mem.tail _ (List.Mem.head _) | exact List.Mem.tail _ (List.Mem.tail _ (List.Mem.head _)) | exact List.Mem.tail _ (List.Mem.tail _ (List.Mem.tail _ (List.Mem.head _))) | exact List.Mem.tail _ (List.Mem.tail _ (List.Mem.tail _ (List.Mem.tail _ (List.Mem.head _)))) | exact List.Mem.tail _ (List.Mem.tail _ (List.Mem.tail _ (List.Mem.tail _ (List.Mem.tail _ (List.Mem.head _)))))))), Lib.hid (by rw [List.length_append]; exact hfr3.out), Lib.hid (by rw [List.length_append]; exact hdj3.out), by rw [Hid, show acs (L ++ M) = acs L ++ acs M from by simp [acs], hq2.out]; exact hm2.out, hwu2⟩
        case measure => simp [intOf]; omega
      · have hke : k = 3 := by omega
        subst hke
        have hfin : mfeed T ez [] = (u, acs L) := by
          rw [← hm.out, ← hpT.out, List.take_of_length_le (by rw [hp3.out]; exact Nat.le_refl _)]
        have hus : u = s1 ∧ acs L = X1 := by
          have := hfin.symm.trans h1.out
          injection this with e1 e2
          exact ⟨e1, e2⟩
        obtain ⟨hus, hLX⟩ := hus
        subst hus
        have hfd := wf_feed T hT.out.1 ez [] ez_wf
        have hsm := small_feed T hT.out.1 ez [] ez_wf small_nil
        rw [h1.out] at hfd hsm
        have hlu : u.par.length ≤ 1000 := by have := hfd.1.2.1; simp only at this; omega
        have hy : X1.length ≤ 1000000 := by have := hfd.2; simp at this; omega
        have hs := Lib.hid (show ∀ y ∈ X1, y.par.length ≤ 1000 from hsm)
        replace hLX := Lib.hid hLX
        clear hfd hsm hfin hm
        go_wp2_with (first
    | (refine wl_made (bs := []) (t := 33) hS.out ?_; intro wB hS9; replace hS := Lib.hid hS9; clear hS9)
    | (refine wl_made (t := 33) hS.out ?_; intro w9 hS9; replace hS := Lib.hid hS9; clear hS9)
    | (refine wl_loadAll (T := 33) hS.out (by rfl) rfl (by rfl) Try.underlying33 rfl Try.size33 (by repeat (first | exact At.here | apply At.there)) (by rfl) ?_)
    | (refine wl_storeAll (T := 33) hS.out (by rfl) rfl (by rfl) (by rfl) (by exact Try.size33) (by repeat (first | exact At.here | apply At.there)) (by rfl) (by rfl) ?_; intro w9 hS9; replace hS := Lib.hid hS9; clear hS9)
    | (go_at_call 15; refine (sameEsc_ _ u a1 a' c1 c' (hS.out.get (own1 3 1 (.slice a1 u.par.length c1) u.par.length (ints u.par)) (by simp)) (hS.out.get (intsF (.slice a' u.par.length c') u.par) (by simp)) hlu).mono ?_; rintro e w9 ⟨rfl, x⟩; replace hS := Lib.hid (hS.out.call x); clear x)
    | (go_at_call 12; refine (sameActions_t _ L1 L X1 b1 b2 d1 d2 (hS.out.get (actsF (.slice b1 L1.length d1) L1) (by simp)) (hS.out.get (actsF (.slice b2 L.length d2) L) (by simp)) hq1.out hLX.out hy hs.out).mono ?_; rintro e w9 ⟨rfl, x⟩; replace hS := Lib.hid (hS.out.call x); clear x)
    | (go_at_call 13; refine (awake_ _).mono ?_; rintro e w9 ⟨rfl, x⟩; replace hS := Lib.hid (hS.out.call x); clear x))
        go_ret
        exact ⟨rfl, hS.out.isNew⟩
set_option maxHeartbeats 2000000 in
set_option maxRecDepth 100000 in
theorem parts_b (w : World) (zs xs : List Int) (ra la : Option Addr) (rc lc : Nat) (a b : Int) (hr : Rd .u8 w ra zs) (hz : zs.length ≤ 500) (hl : Rd .i64 w la xs) (hl2 : xs.length ≤ maxLen) (T : List Int) (hT0 : T = mbytes xs ++ zs) (hT1 : ∀ z ∈ T, 0 ≤ z ∧ z ≤ 255)
    (s1 : Es) (X1 : List Ac) (h1 : mfeed T ez [] = (s1, X1)) (lo hi : Nat) (hA : a % 65536 % ((T.length : Int) + 1) = (hi : Int)) (hB : b % 65536 % ((T.length : Int) + 1) = (lo : Int)) (hlt : lo < hi) (hh : hi ≤ T.length) :
    Calls Try.prog 7 #[.slice ra zs.length rc, .slice la xs.length lc, .int .i64 a, .int .i64 b] w fun e w' => e = .returned (.bool true) ∧ New w w' := by
  have hS : St (fun _ => False) w w [] [] := St.init w
  replace hS := Lib.hid hS
  have hml := mbytes_len xs
  have hlh : lo ≤ hi := by omega
  have hTl : (mbytes xs).length + zs.length = T.length := by rw [hT0]; simp
  have hTv : bytesV (mbytes xs) ++ bytesV zs = bytesV T := by rw [hT0, bytesV_append]
  have hTn : T.length ≤ 1220 := by omega
  have hT := Lib.hid (And.intro hT1 (show T.length ≤ 100000 by omega))
  have g500 : decide ((500 : Int) < (zs.length : Int)) = false := decide_eq_false (by omega)
  replace hr := Lib.hid hr
  replace hl := Lib.hid hl
  replace hl2 := Lib.hid hl2
  replace hTl := Lib.hid hTl
  replace hTv := Lib.hid hTv
  replace h1 := Lib.hid h1
  clear hT0 hT1
  have q1 : 0 ≤ a % 65536 := by omega
  have q2 : a % 65536 < 65536 := by omega
  have q3 : 0 ≤ b % 65536 := by omega
  have q4 : b % 65536 < 65536 := by omega
  have tb1 : True := trivial
  have ta1 : True := trivial
  have tf1 : True := trivial
  go_enter Try.func7, Try.ntmps7
  go_wp2_with (first
    | (refine wl_made (bs := []) (t := 33) hS.out ?_; intro wB hS9; replace hS := Lib.hid hS9; clear hS9)
    | (refine wl_made (t := 33) hS.out ?_; intro w9 hS9; replace hS := Lib.hid hS9; clear hS9)
    | (refine wl_loadAll (T := 33) hS.out (by rfl) rfl (by rfl) Try.underlying33 rfl Try.size33 (by repeat (first | exact At.here | apply At.there)) (by rfl) ?_)
    | (refine wl_storeAll (T := 33) hS.out (by rfl) rfl (by rfl) (by rfl) (by exact Try.size33) (by repeat (first | exact At.here | apply At.there)) (by rfl) (by rfl) ?_; intro w9 hS9; replace hS := Lib.hid hS9; clear hS9)
    | (go_at_call 16; have _t := tb1; refine (bytes_ _ xs la lc (hl.out.new hS.out.isNew) hl2.out).mono ?_; clear _t tb1; rintro e w9 ⟨⟨ta, tc, rfl, ho, hfr⟩, x⟩; replace hS := Lib.hid ((hS.out.call x).own ho (by simp)); clear x ho; replace hfr := Lib.hid hfr)
    | (at_builtin; have _t := ta1; refine wl_append hS.out (by rfl) rfl Try.underlying36 Try.info5 rfl (by decide) (v := .slice ta (mbytes xs).length tc) (by rfl) (hS.out.get (bytesF (.slice ta (mbytes xs).length tc) (mbytes xs)) (by simp)) (xv := .slice ra zs.length rc) (by rfl) (src_rd (hr.out.new hS.out.isNew)) (by unfold maxLen; omega) (by omega) ?_; clear _t ta1; intro v9 w9 hown Xg hat; rw [hTl.out, hTv.out] at hown; replace hS := Lib.hid ((hS.out.app0 (own1 5 1 (.slice ta (mbytes xs).length tc) (mbytes xs).length (bytesV (mbytes xs))) (List.Mem.head _) hfr.out Xg).own hown (by simp)); obtain ⟨at_, ct, rfl⟩ := own_form hown; have hcap := Lib.hid (own_cap hown); clear hown Xg hat)
    | (go_at_call 11; have _t := tf1; refine (feed_r _ ez T (s1, X1) none at_ 0 ct (Ints.nil _) (rd_bytes (hS.out.get (bytesF (.slice at_ T.length ct) T) (by simp))) hT.out.1 hT.out.2 ez_wf h1.out).mono ?_; clear _t tf1; rintro e w9 ⟨⟨a1, c1, b1, d1, L1, rfl, hI, hL, hq1⟩, x⟩; replace hS := Lib.hid (((hS.out.call x).own hI (by simp)).acts hL (by simp)); clear x hI hL; replace hq1 := Lib.hid hq1))
  go_quiet (fail)
  refine absorb_Q (hS.out.drewN nq) ?_
  simp only [hA, hB]
  clear hA hB q1 q2 q3 q4
  intro w9 hS9; replace hS := Lib.hid hS9; clear hS9
  go_wp2_with (first
    | (refine wl_made (bs := []) (t := 33) hS.out ?_; intro wB hS9; replace hS := Lib.hid hS9; clear hS9)
    | (refine wl_made (t := 33) hS.out ?_; intro w9 hS9; replace hS := Lib.hid hS9; clear hS9)
    | (refine wl_loadAll (T := 33) hS.out (by rfl) rfl (by rfl) Try.underlying33 rfl Try.size33 (by repeat (first | exact At.here | apply At.there)) (by rfl) ?_)
    | (refine wl_storeAll (T := 33) hS.out (by rfl) rfl (by rfl) (by rfl) (by exact Try.size33) (by repeat (first | exact At.here | apply At.there)) (by rfl) (by rfl) ?_; intro w9 hS9; replace hS := Lib.hid hS9; clear hS9)
    | (go_at_call 11; have _t := tf1; refine (feed_r _ ez T (s1, X1) none at_ 0 ct (Ints.nil _) (rd_bytes (hS.out.get (bytesF (.slice at_ T.length ct) T) (by simp))) hT.out.1 hT.out.2 ez_wf h1.out).mono ?_; clear _t tf1; rintro e w9 ⟨⟨a1, c1, b1, d1, L1, rfl, hI, hL, hq1⟩, x⟩; replace hS := Lib.hid (((hS.out.call x).own hI (by simp)).acts hL (by simp)); clear x hI hL; replace hq1 := Lib.hid hq1))
  all_goals
    obtain ⟨B2, B1, e1, e2⟩ := hS.out.names2
    rw [← e1, ← e2] at hS
    rw [← e1, ← e2]
    replace e1 := Lib.hid e1
    replace e2 := Lib.hid e2
    have c0 : lo ≤ ct := by have := hcap.out; omega
    have c1_ : hi ≤ ct := by have := hcap.out; omega
    refine region_St0 hS.out (fun _ => true) (by kernel_rfl) ?_
    intro w9 hR hS9; replace hS := Lib.hid hS9; clear hS9
    refine wpJ_take 0 (oi := { dst := some 53, op := Op.move (Operand.tmp 9), type := 36, pos := "law.go:58", after := #[], guard := none }) rfl (by kernel_rfl) (by kernel_rfl) (fun _ _ _ h => h) hR (y_move (by rfl) rfl (by rfl)) (fun _ => ?_)
    try simp only [Act.put, Act.eval, Array.getD_eq_getD_getElem?, List.getElem?_toArray, List.getElem?_cons_succ, List.getElem?_cons_zero, Option.getD_some, List.setIfInBounds_toArray, List.set_cons_zero, List.set_cons_succ]
    refine wpJ_take 1 (oi := { dst := some 54, op := Op.move (Operand.tmp 10), type := 3, pos := "law.go:58", after := #[], guard := none }) rfl (by kernel_rfl) (by kernel_rfl) (fun _ _ _ h => h) hR (y_move (by rfl) rfl (by rfl)) (fun _ => ?_)
    try simp only [Act.put, Act.eval, Array.getD_eq_getD_getElem?, List.getElem?_toArray, List.getElem?_cons_succ, List.getElem?_cons_zero, Option.getD_some, List.setIfInBounds_toArray, List.set_cons_zero, List.set_cons_succ]
    refine wpJ_take 2 (oi := { dst := some 55, op := Op.slice 36 (Operand.tmp 53) none (some (Operand.tmp 54)) none, type := 36, pos := "law.go:58", after := #[{ on := 0, ground := Ground.data }, { on := 1, ground := Ground.data }], guard := none }) rfl (by kernel_rfl) (by kernel_rfl) (fun _ _ _ h => h) hR (y_slice_to (by rfl) rfl Try.underlying36 Try.size5 (by rfl) (by rfl) c0) (fun _ => ?_)
    try simp only [Act.put, Act.eval, Array.getD_eq_getD_getElem?, List.getElem?_toArray, List.getElem?_cons_succ, List.getElem?_cons_zero, Option.getD_some, List.setIfInBounds_toArray, List.set_cons_zero, List.set_cons_succ]
    refine wpJ_take 3 (oi := { dst := some 56, op := Op.move (Operand.tmp 9), type := 36, pos := "law.go:58", after := #[], guard := none }) rfl (by kernel_rfl) (by kernel_rfl) (fun _ _ _ h => h) hR (y_move (by rfl) rfl (by rfl)) (fun _ => ?_)
    try simp only [Act.put, Act.eval, Array.getD_eq_getD_getElem?, List.getElem?_toArray, List.getElem?_cons_succ, List.getElem?_cons_zero, Option.getD_some, List.setIfInBounds_toArray, List.set_cons_zero, List.set_cons_succ]
    refine wpJ_take 4 (oi := { dst := some 57, op := Op.move (Operand.tmp 10), type := 3, pos := "law.go:58", after := #[], guard := none }) rfl (by kernel_rfl) (by kernel_rfl) (fun _ _ _ h => h) hR (y_move (by rfl) rfl (by rfl)) (fun _ => ?_)
    try simp only [Act.put, Act.eval, Array.getD_eq_getD_getElem?, List.getElem?_toArray, List.getElem?_cons_succ, List.getElem?_cons_zero, Option.getD_some, List.setIfInBounds_toArray, List.set_cons_zero, List.set_cons_succ]
    refine wpJ_take 5 (oi := { dst := some 58, op := Op.move (Operand.tmp 11), type := 3, pos := "law.go:58", after := #[], guard := none }) rfl (by kernel_rfl) (by kernel_rfl) (fun _ _ _ h => h) hR (y_move (by rfl) rfl (by rfl)) (fun _ => ?_)
    try simp only [Act.put, Act.eval, Array.getD_eq_getD_getElem?, List.getElem?_toArray, List.getElem?_cons_succ, List.getElem?_cons_zero, Option.getD_some, List.setIfInBounds_toArray, List.set_cons_zero, List.set_cons_succ]
    refine wpJ_take 6 (oi := { dst := some 59, op := Op.slice 36 (Operand.tmp 56) (some (Operand.tmp 57)) (some (Operand.tmp 58)) none, type := 36, pos := "law.go:58", after := #[{ on := 3, ground := Ground.data }, { on := 4, ground := Ground.data }, { on := 5, ground := Ground.data }], guard := none }) rfl (by kernel_rfl) (by kernel_rfl) (fun _ _ _ h => h) hR (y_slice2 (by rfl) rfl Try.underlying36 Try.size5 (by rfl) (by rfl) (by rfl) hlh c1_) (fun _ => ?_)
    try simp only [Act.put, Act.eval, Array.getD_eq_getD_getElem?, List.getElem?_toArray, List.getElem?_cons_succ, List.getElem?_cons_zero, Option.getD_some, List.setIfInBounds_toArray, List.set_cons_zero, List.set_cons_succ]
    refine wpJ_take 7 (oi := { dst := some 60, op := Op.move (Operand.tmp 9), type := 36, pos := "law.go:58", after := #[], guard := none }) rfl (by kernel_rfl) (by kernel_rfl) (fun _ _ _ h => h) hR (y_move (by rfl) rfl (by rfl)) (fun _ => ?_)
    try simp only [Act.put, Act.eval, Array.getD_eq_getD_getElem?, List.getElem?_toArray, List.getElem?_cons_succ, List.getElem?_cons_zero, Option.getD_some, List.setIfInBounds_toArray, List.set_cons_zero, List.set_cons_succ]
    refine wpJ_take 8 (oi := { dst := some 61, op := Op.move (Operand.tmp 11), type := 3, pos := "law.go:58", after := #[], guard := none }) rfl (by kernel_rfl) (by kernel_rfl) (fun _ _ _ h => h) hR (y_move (by rfl) rfl (by rfl)) (fun _ => ?_)
    try simp only [Act.put, Act.eval, Array.getD_eq_getD_getElem?, List.getElem?_toArray, List.getElem?_cons_succ, List.getElem?_cons_zero, Option.getD_some, List.setIfInBounds_toArray, List.set_cons_zero, List.set_cons_succ]
    refine wpJ_take 9 (oi := { dst := some 62, op := Op.slice 36 (Operand.tmp 60) (some (Operand.tmp 61)) none none, type := 36, pos := "law.go:58", after := #[{ on := 7, ground := Ground.data }, { on := 8, ground := Ground.data }], guard := none }) rfl (by kernel_rfl) (by kernel_rfl) (fun _ _ _ h => h) hR (y_slice_from (by rfl) rfl Try.underlying36 Try.size5 (by rfl) (by rfl) hh) (fun _ => ?_)
    try simp only [Act.put, Act.eval, Array.getD_eq_getD_getElem?, List.getElem?_toArray, List.getElem?_cons_succ, List.getElem?_cons_zero, Option.getD_some, List.setIfInBounds_toArray, List.set_cons_zero, List.set_cons_succ]
    refine wpJ_take 12 (oi := { dst := some 65, op := Op.move (Operand.const (Value.int IntKind.i64 0)), type := 3, pos := "law.go:58", after := #[], guard := none }) rfl (by kernel_rfl) (by kernel_rfl) (fun _ _ _ h => h) hR (y_move (by rfl) rfl (by rfl)) (fun _ => ?_)
    try simp only [Act.put, Act.eval, Array.getD_eq_getD_getElem?, List.getElem?_toArray, List.getElem?_cons_succ, List.getElem?_cons_zero, Option.getD_some, List.setIfInBounds_toArray, List.set_cons_zero, List.set_cons_succ]
    refine wpJ_one 10 (oi := { dst := some 63, op := Op.buildSlice 44 3 #[(0, Operand.tmp 55), (1, Operand.tmp 59), (2, Operand.tmp 62)], type := 44, pos := "law.go:58", after := #[{ on := 2, ground := Ground.data }, { on := 6, ground := Ground.data }, { on := 9, ground := Ground.data }], guard := none }) rfl (by kernel_rfl) ?_
    intro K hK
    refine sw (by rfl) ?_
    refine st_made hS.out (by go_simp; (first | done | exact ⟨rfl, rfl⟩)) ?_
    intro w9 hS9; replace hS := Lib.hid hS9; clear hS9
    refine hK _ _ (fun _ => (by repeat (first | exact rows_nil _ | refine rows_here hS.out (by repeat (first | exact At.here | apply At.there)) ?_))) ?_
    clear hK K
    replace hR := rows_of hR w9 (by repeat (first | exact rows_nil _ | refine rows_here hS.out (by repeat (first | exact At.here | apply At.there)) ?_))
    try simp only [Act.put, Act.eval, Array.getD_eq_getD_getElem?, List.getElem?_toArray, List.getElem?_cons_succ, List.getElem?_cons_zero, Option.getD_some, List.setIfInBounds_toArray, List.set_cons_zero, List.set_cons_succ]
    refine wpJ_take 11 (oi := { dst := some 64, op := Op.call { callee := Callee.builtin Builtin.len, args := #[Operand.tmp 63], argTypes := #[44] }, type := 3, pos := "law.go:58", after := #[{ on := 10, ground := Ground.data }], guard := none }) rfl (by kernel_rfl) (by kernel_rfl) (fun _ _ _ h => h) hR (Or.inl ⟨by rfl, (by intro W hW; clear hW; go_simp; (first | done | with_reducible rfl))⟩) (fun _ => ?_)
    try simp only [Act.put, Act.eval, Array.getD_eq_getD_getElem?, List.getElem?_toArray, List.getElem?_cons_succ, List.getElem?_cons_zero, Option.getD_some, List.setIfInBounds_toArray, List.set_cons_zero, List.set_cons_succ]
    refine wpJ_done _ (by kernel_rfl) ?_
    go_wp2_with fail
    obtain ⟨B3, e3⟩ := hS.out.names3
    rw [← e3] at hS
    rw [← e3]
    replace e3 := Lib.hid e3
    obtain ⟨ps, hp3, hpc, hprd, hpT⟩ := pieces_of T at_ ct lo hi hlh hh hcap.out
    first | rw [hpc] at hS | (simp only [Nat.sub_self] at hpc; rw [hpc] at hS)
    clear hpc
    replace hprd := Lib.hid hprd
    replace hpT := Lib.hid hpT
    replace hp3 := Lib.hid hp3
    try simp only [Nat.sub_self]
    go_loopw [14, 65] (fun v i wr => ∃ (k : Nat) (u : Es) (L : List (Ac × Value)) (a' : Option Addr) (c' : Nat) (b2 : Option Addr) (d2 : Nat), k ≤ 3 ∧ i = .int .i64 k ∧ v = .slice b2 L.length d2 ∧ Hid (St (fun _ => False) w wr [(B3, 36, ps.map pv), (B2, 33, [.int .i64 u.m, .int .i64 u.nd, .int .i64 u.mn, .int .i64 u.gt, .slice a' u.par.length c', .int .i64 u.nu, .bool u.pv, .bool u.sk]), (B1, 33, [.int .i64 s1.m, .int .i64 s1.nd, .int .i64 s1.mn, .int .i64 s1.gt, .slice a1 s1.par.length c1, .int .i64 s1.nu, .bool s1.pv, .bool s1.sk])] [intsF (.slice a' u.par.length c') u.par, actsF (.slice b2 L.length d2) L, actsF (.slice b1 L1.length d1) L1, own1 3 1 (.slice a1 s1.par.length c1) s1.par.length (ints s1.par), own1 5 1 (.slice at_ T.length ct) T.length (bytesV T)]) ∧ Hid (Fresh w.heap.size (.slice b2 L.length d2)) ∧ Hid (∀ k, (actsF (.slice b1 L1.length d1) L1).foot k → ¬ Bk (.slice b2 L.length d2) k) ∧ Hid (mfeed ((ps.take k).map (·.2.1)).flatten ez [] = (u, acs L)) ∧ Hid (Wf u)) (fun _ i _ => 3 - (intOf i).toNat)
    case atStart => exact ⟨0, ez, [], none, 0, none, 0, by omega, rfl, rfl, Lib.hid (St.drop ((hS.out.own (t := 3) (size := 1) (v := .slice none 0 0) (n := 0) (xs := []) (World.ownsRow_nil _ _ _ _) (by simp)).acts (Acts.nil _) (by simp)) (by intro f hf; simp only [List.mem_cons, List.not_mem_nil, or_false] at hf; (repeat' (rcases hf with hf | hf)); all_goals ((try subst hf); first | exact List.Mem.head _ | exact List.Mem.tail _ (List.Mem.head _) | exact List.Mem.tail _ (List.Mem.tail _ (List.Mem.head _)) | exact List.Mem.tail _ (List.Mem.tail _ (List.Mem.tail _ (List.Mem.head _))) | exact List.Mem.tail _ (List.Mem.tail _ (List.Mem.tail _ (List.Mem.tail _ (List.Mem.head _)))) | exact List.Mem.tail _ (List.Mem.tail _ (List.Mem.tail _ (List.Mem.tail _ (List.Mem.tail _ (List.Mem.head _)))))))), Lib.hid (Fresh.nil _), Lib.hid (fun k _ h => by simp [Bk, Value.ownBlock] at h), Lib.hid rfl, Lib.hid ez_wf⟩
    case round =>
      obtain ⟨k, u, L, a', c', b2, d2, hk, rfl, rfl, hS, hfr2, hdj, hm, hwu⟩ := hrel
      by_cases hk3 : k < 3
      · have hkl : k < ps.length := by rw [hp3.out]; exact hk3
        obtain ⟨p, hp⟩ : ∃ p, ps[k] = p := ⟨_, rfl⟩
        have hpm : p ∈ ps := by rw [← hp]; exact List.getElem_mem hkl
        have hrp := hprd.out wr (rd_bytes (hS.out.get (bytesF (.slice at_ T.length ct) T) (by simp))) p hpm
        have hvp : (ps.map pv)[k]? = some (pv p) := by simp [hkl, hp]
        have hsp := piece_in ps T hpT.out p hpm
        obtain ⟨hpre, hnext⟩ := pre_in ps T hpT.out k hkl p hp
        have hbd := hT.out.1
        have w1 := wf_feed ((ps.take k).map (·.2.1)).flatten (fun x hx => hbd x (hpre.subset hx)) ez [] ez_wf
        rw [hm.out] at w1
        have hLb : L.length ≤ 2440 := by have := w1.2; have := hpre.length_le; simp [acs] at this w1; omega
        obtain ⟨pa, pz, pc⟩ := p
        simp only at hrp hsp hnext
        obtain ⟨u2, M2, hf⟩ : ∃ u2 M2, mfeed pz u [] = (u2, M2) := ⟨_, _, rfl⟩
        have hpz : ∀ z ∈ pz, 0 ≤ z ∧ z ≤ 255 := fun z hz => hbd z (hsp.subset hz)
        have hpn : pz.length ≤ 1220 := Nat.le_trans hsp.length_le hTn
        have w2 := wf_feed pz hpz u [] hwu.out
        rw [hf] at w2
        have hMb : M2.length ≤ 2440 := by have := w2.2; simp at this; omega
        have hm2 : mfeed ((ps.take (k + 1)).map (·.2.1)).flatten ez [] = (u2, acs L ++ M2) := by
          rw [hnext, mfeed_append, hm.out, mfeed_out, hf]
        have hwu2 := Lib.hid w2.1
        clear w1 w2 hpre hnext hbd hp hpm hm hsp hkl
        replace hrp := Lib.hid hrp
        replace hvp := Lib.hid hvp
        replace hf := Lib.hid hf
        replace hm2 := Lib.hid hm2
        replace hpz := Lib.hid hpz
        have tf2 : True := trivial
        go_wp2_with (first
    | (refine wl_made (bs := []) (t := 33) hS.out ?_; intro wB hS9; replace hS := Lib.hid hS9; clear hS9)
    | (refine wl_made (t := 33) hS.out ?_; intro w9 hS9; replace hS := Lib.hid hS9; clear hS9)
    | (refine wl_loadAll (T := 33) hS.out (by rfl) rfl (by rfl) Try.underlying33 rfl Try.size33 (by repeat (first | exact At.here | apply At.there)) (by rfl) ?_)
    | (refine wl_storeAll (T := 33) hS.out (by rfl) rfl (by rfl) (by rfl) (by exact Try.size33) (by repeat (first | exact At.here | apply At.there)) (by rfl) (by rfl) ?_; intro w9 hS9; replace hS := Lib.hid hS9; clear hS9)
    | (refine wl_load1 (T := 36) (v := .slice pa pz.length pc) hS.out (by rfl) rfl (by rfl) Try.underlying36 rfl (by repeat (first | exact At.here | apply At.there)) hvp.out ?_)
    | (go_at_call 11; have _t := tf2; refine (feed_r _ u pz (u2, M2) a' pa c' pc (hS.out.get (intsF (.slice a' u.par.length c') u.par) (by simp)) hrp.out hpz.out (by omega) hwu.out hf.out).mono ?_; clear _t tf2; rintro e w9 ⟨⟨a3, c3, b3, d3, M, rfl, hI, hM, hq2⟩, x⟩; replace hS := Lib.hid (((hS.out.call x).own hI (by simp)).acts hM (by simp)); clear x hI hM; replace hq2 := Lib.hid hq2))
        refine region_St1 hS.out 0 (fun _ => true) (by kernel_rfl) (by rfl) ?_
        intro w9 hR hS9; replace hS := Lib.hid hS9; clear hS9
        refine wpJ_take 0 (oi := { dst := some 75, op := Op.load 33 (Operand.tmp 18), type := 33, pos := "law.go:60", after := #[], guard := none }) rfl (by kernel_rfl) (by kernel_rfl) (fun _ _ _ h => h) hR (y_loadAll (T := 33) (by rfl) rfl (by rfl) Try.underlying33 rfl Try.size33 (by repeat (first | exact At.here | apply At.there)) (by rfl)) (fun _ => ?_)
        try simp only [Act.put, Act.eval, Array.getD_eq_getD_getElem?, List.getElem?_toArray, List.getElem?_cons_succ, List.getElem?_cons_zero, Option.getD_some, List.setIfInBounds_toArray, List.set_cons_zero, List.set_cons_succ]
        refine wpJ_take 1 (oi := { dst := some 76, op := Op.move (Operand.tmp 14), type := 27, pos := "law.go:60", after := #[], guard := none }) rfl (by kernel_rfl) (by kernel_rfl) (fun _ _ _ h => h) hR (y_move (by rfl) rfl (by rfl)) (fun _ => ?_)
        try simp only [Act.put, Act.eval, Array.getD_eq_getD_getElem?, List.getElem?_toArray, List.getElem?_cons_succ, List.getElem?_cons_zero, Option.getD_some, List.setIfInBounds_toArray, List.set_cons_zero, List.set_cons_succ]
        refine wpJ_take 2 (oi := { dst := some 77, op := Op.move (Operand.tmp 19), type := 27, pos := "law.go:60", after := #[], guard := none }) rfl (by kernel_rfl) (by kernel_rfl) (fun _ _ _ h => h) hR (y_move (by rfl) rfl (by rfl)) (fun _ => ?_)
        try simp only [Act.put, Act.eval, Array.getD_eq_getD_getElem?, List.getElem?_toArray, List.getElem?_cons_succ, List.getElem?_cons_zero, Option.getD_some, List.setIfInBounds_toArray, List.set_cons_zero, List.set_cons_succ]
        refine wpJ_one 3 (oi := { dst := some 78, op := Op.call { callee := Callee.builtin Builtin.append, args := #[Operand.tmp 76, Operand.tmp 77], argTypes := #[27, 27] }, type := 27, pos := "law.go:60", after := #[{ on := 1, ground := Ground.data }, { on := 2, ground := Ground.data }], guard := none }) rfl (by kernel_rfl) ?_
        intro K hK
        refine sw (by rfl) ?_
        have hM1 : M.length ≤ 2440 := by have := congrArg List.length hq2.out; simp only [acs_len] at this; omega
        refine st_append hS.out rfl Try.underlying27 Try.info24 rfl (by decide) (v := .slice b2 L.length d2) (by rfl) (hS.out.get (actsF (.slice b2 L.length d2) L) (by simp)).own (xv := .slice b3 M.length d3) (by rfl) (Src.own Try.underlying27 (hS.out.get (actsF (.slice b3 M.length d3) M) (by simp)).own (Acts.one' (hS.out.get (actsF (.slice b3 M.length d3) M) (by simp)).par)) (by unfold maxLen; omega) (by omega) ?_
        intro v9 w9 hown Xg hat
        obtain ⟨b4, d4, rfl⟩ := own_form hown
        have hfr3 := Lib.hid (hfr2.out.app hS.out.ext.size hat)
        have hdj3 := Lib.hid (fun k (hk : (actsF (.slice b1 L1.length d1) L1).foot k) (h : Bk (.slice b4 (L.length + M.length) d4) k) => (hat k h).elim (hdj.out k hk) (fun e => Nat.ne_of_lt ((actsF (.slice b1 L1.length d1) L1).lt _ (hS.out.get (actsF (.slice b1 L1.length d1) L1) (by simp)) k hk) e))
        have hA1 : Acts _ (.slice b2 L.length d2) L := (hS.out.get (actsF (.slice b2 L.length d2) L) (by simp))
        have hI2 := hS.out.get (intsF (.slice a3 u2.par.length c3) u2.par) (by simp)
        have hI3 := hS.out.get (own1 3 1 (.slice a1 s1.par.length c1) s1.par.length (ints s1.par)) (by simp)
        have hI4 := hS.out.get (own1 5 1 (.slice at_ T.length ct) T.length (bytesV T)) (by simp)
        replace hS := Lib.hid (hS.out.app2 (v1 := .slice b2 L.length d2) (v2 := .slice b3 M.length d3) (ks' := [intsF (.slice a3 u2.par.length c3) u2.par, actsF (.slice b1 L1.length d1) L1, own1 3 1 (.slice a1 s1.par.length c1) s1.par.length (ints s1.par), own1 5 1 (.slice at_ T.length ct) T.length (bytesV T)]) (by simp) (by simp) hfr2.out hown Xg (by intro f hf; simp only [List.mem_cons, List.not_mem_nil, or_false] at hf; rcases hf with rfl | rfl | rfl | rfl <;> first | exact ⟨by simp, hdj.out⟩ | exact ⟨by simp, apart_own hA1 hI2 (by decide)⟩ | exact ⟨by simp, apart_own hA1 hI3 (by decide)⟩ | exact ⟨by simp, apart_own hA1 hI4 (by decide)⟩) (by simp))
        clear hown Xg hat hA1 hI2 hI3 hI4
        refine hK _ _ (fun _ => (by repeat (first | exact rows_nil _ | refine rows_here hS.out (by repeat (first | exact At.here | apply At.there)) ?_))) ?_
        clear hK K
        replace hR := rows_of hR w9 (by repeat (first | exact rows_nil _ | refine rows_here hS.out (by repeat (first | exact At.here | apply At.there)) ?_))
        try simp only [Act.put, Act.eval, Array.getD_eq_getD_getElem?, List.getElem?_toArray, List.getElem?_cons_succ, List.getElem?_cons_zero, Option.getD_some, List.setIfInBounds_toArray, List.set_cons_zero, List.set_cons_succ]
        refine wpJ_one 4 (oi := { dst := none, op := Op.store 33 (Operand.tmp 15) (Operand.tmp 75), type := 0, pos := "law.go:60", after := #[{ on := 0, ground := Ground.data }, { on := 3, ground := Ground.chain }, { on := 0, ground := Ground.phase }, { on := 1, ground := Ground.textOnly Departure.lateStores }, { on := 2, ground := Ground.textOnly Departure.lateStores }, { on := 3, ground := Ground.textOnly Departure.lateStoresUnsure }], guard := none }) rfl (by kernel_rfl) ?_
        intro K hK
        refine sw (by rfl) ?_
        refine st_storeAll (T := 33) hS.out rfl (by rfl) (by rfl) (by exact Try.size33) (by repeat (first | exact At.here | apply At.there)) (by rfl) (by rfl) ?_; intro w9 hS9; replace hS := Lib.hid hS9; clear hS9
        refine hK _ _ (fun _ => (by repeat (first | exact rows_nil _ | refine rows_here hS.out (by repeat (first | exact At.here | apply At.there)) ?_))) ?_
        clear hK K
        replace hR := rows_of hR w9 (by repeat (first | exact rows_nil _ | refine rows_here hS.out (by repeat (first | exact At.here | apply At.there)) ?_))
        try simp only [Act.put, Act.eval, Array.getD_eq_getD_getElem?, List.getElem?_toArray, List.getElem?_cons_succ, List.getElem?_cons_zero, Option.getD_some, List.setIfInBounds_toArray, List.set_cons_zero, List.set_cons_succ]
        refine wpJ_take 5 (oi := { dst := some 14, op := Op.assign (Operand.tmp 78), type := 27, pos := "law.go:60", after := #[{ on := 3, ground := Ground.data }, { on := 4, ground := Ground.chain }, { on := 0, ground := Ground.phase }, { on := 1, ground := Ground.phase }, { on := 2, ground := Ground.phase }, { on := 3, ground := Ground.phase }, { on := 4, ground := Ground.phase }], guard := none }) rfl (by kernel_rfl) (by kernel_rfl) (fun _ _ _ h => h) hR (y_assign (by rfl) rfl (by rfl)) (fun _ => ?_)
        try simp only [Act.put, Act.eval, Array.getD_eq_getD_getElem?, List.getElem?_toArray, List.getElem?_cons_succ, List.getElem?_cons_zero, Option.getD_some, List.setIfInBounds_toArray, List.set_cons_zero, List.set_cons_succ]
        refine wpJ_done _ (by kernel_rfl) ?_
        go_wp2_with fail
        go_roundw
        case rel => exact ⟨k + 1, u2, L ++ M, a3, c3, b4, d4, by omega, by go_num, by simp, Lib.hid (by rw [List.length_append]; exact St.drop (hS.out.forget (List.sublist_cons_self _ _)) (by intro f hf; simp only [List.mem_cons, List.not_mem_nil, or_false] at hf; (repeat' (rcases hf with hf | hf)); all_goals ((try subst hf); first | exact List.Mem.head _ | exact List.Mem.tail _ (List.Mem.head _) | exact List.Mem.tail _ (List.Mem.tail _ (List.Mem.head _)) | exact List.Mem.tail _ (List.Mem.tail _ (List.Mem.tail _ (List.Mem.head _))) | exact List.Mem.tail _ (List.Mem.tail _ (List.Mem.tail _ (List.Mem.tail _ (List.Mem.head _)))) | exact List.Mem.tail _ (List.Mem.tail _ (List.Mem.tail _ (List.Mem.tail _ (List.Mem.tail _ (List.Mem.head _)))))))), Lib.hid (by rw [List.length_append]; exact hfr3.out), Lib.hid (by rw [List.length_append]; exact hdj3.out), by rw [Hid, show acs (L ++ M) = acs L ++ acs M from by simp [acs], hq2.out]; exact hm2.out, hwu2⟩
        case measure => simp [intOf]; omega
      · have hke : k = 3 := by omega
        subst hke
        have hfin : mfeed T ez [] = (u, acs L) := by
          rw [← hm.out, ← hpT.out, List.take_of_length_le (by rw [hp3.out]; exact Nat.le_refl _)]
        have hus : u = s1 ∧ acs L = X1 := by
          have := hfin.symm.trans h1.out
          injection this with e1 e2
          exact ⟨e1, e2⟩
        obtain ⟨hus, hLX⟩ := hus
        subst hus
        have hfd := wf_feed T hT.out.1 ez [] ez_wf
        have hsm := small_feed T hT.out.1 ez [] ez_wf small_nil
        rw [h1.out] at hfd hsm
        have hlu : u.par.length ≤ 1000 := by have := hfd.1.2.1; simp only at this; omega
        have hy : X1.length ≤ 1000000 := by have := hfd.2; simp at this; omega
        have hs := Lib.hid (show ∀ y ∈ X1, y.par.length ≤ 1000 from hsm)
        replace hLX := Lib.hid hLX
        clear hfd hsm hfin hm
        go_wp2_with (first
    | (refine wl_made (bs := []) (t := 33) hS.out ?_; intro wB hS9; replace hS := Lib.hid hS9; clear hS9)
    | (refine wl_made (t := 33) hS.out ?_; intro w9 hS9; replace hS := Lib.hid hS9; clear hS9)
    | (refine wl_loadAll (T := 33) hS.out (by rfl) rfl (by rfl) Try.underlying33 rfl Try.size33 (by repeat (first | exact At.here | apply At.there)) (by rfl) ?_)
    | (refine wl_storeAll (T := 33) hS.out (by rfl) rfl (by rfl) (by rfl) (by exact Try.size33) (by repeat (first | exact At.here | apply At.there)) (by rfl) (by rfl) ?_; intro w9 hS9; replace hS := Lib.hid hS9; clear hS9)
    | (go_at_call 15; refine (sameEsc_ _ u a1 a' c1 c' (hS.out.get (own1 3 1 (.slice a1 u.par.length c1) u.par.length (ints u.par)) (by simp)) (hS.out.get (intsF (.slice a' u.par.length c') u.par) (by simp)) hlu).mono ?_; rintro e w9 ⟨rfl, x⟩; replace hS := Lib.hid (hS.out.call x); clear x)
    | (go_at_call 12; refine (sameActions_t _ L1 L X1 b1 b2 d1 d2 (hS.out.get (actsF (.slice b1 L1.length d1) L1) (by simp)) (hS.out.get (actsF (.slice b2 L.length d2) L) (by simp)) hq1.out hLX.out hy hs.out).mono ?_; rintro e w9 ⟨rfl, x⟩; replace hS := Lib.hid (hS.out.call x); clear x)
    | (go_at_call 13; refine (awake_ _).mono ?_; rintro e w9 ⟨rfl, x⟩; replace hS := Lib.hid (hS.out.call x); clear x))
        go_ret
        exact ⟨rfl, hS.out.isNew⟩
set_option maxHeartbeats 2000000 in
set_option maxRecDepth 100000 in
theorem parts_e (w : World) (zs xs : List Int) (ra la : Option Addr) (rc lc : Nat) (a b : Int) (hr : Rd .u8 w ra zs) (hz : zs.length ≤ 500) (hl : Rd .i64 w la xs) (hl2 : xs.length ≤ maxLen) (T : List Int) (hT0 : T = mbytes xs ++ zs) (hT1 : ∀ z ∈ T, 0 ≤ z ∧ z ≤ 255)
    (s1 : Es) (X1 : List Ac) (h1 : mfeed T ez [] = (s1, X1)) (lo : Nat) (hA : a % 65536 % ((T.length : Int) + 1) = (lo : Int)) (hB : b % 65536 % ((T.length : Int) + 1) = (lo : Int)) (hh : lo ≤ T.length) :
    Calls Try.prog 7 #[.slice ra zs.length rc, .slice la xs.length lc, .int .i64 a, .int .i64 b] w fun e w' => e = .returned (.bool true) ∧ New w w' := by
  have hS : St (fun _ => False) w w [] [] := St.init w
  replace hS := Lib.hid hS
  have hml := mbytes_len xs
  have hlh : lo ≤ lo := by omega
  have hTl : (mbytes xs).length + zs.length = T.length := by rw [hT0]; simp
  have hTv : bytesV (mbytes xs) ++ bytesV zs = bytesV T := by rw [hT0, bytesV_append]
  have hTn : T.length ≤ 1220 := by omega
  have hT := Lib.hid (And.intro hT1 (show T.length ≤ 100000 by omega))
  have g500 : decide ((500 : Int) < (zs.length : Int)) = false := decide_eq_false (by omega)
  replace hr := Lib.hid hr
  replace hl := Lib.hid hl
  replace hl2 := Lib.hid hl2
  replace hTl := Lib.hid hTl
  replace hTv := Lib.hid hTv
  replace h1 := Lib.hid h1
  clear hT0 hT1
  have q1 : 0 ≤ a % 65536 := by omega
  have q2 : a % 65536 < 65536 := by omega
  have q3 : 0 ≤ b % 65536 := by omega
  have q4 : b % 65536 < 65536 := by omega
  have tb1 : True := trivial
  have ta1 : True := trivial
  have tf1 : True := trivial
  go_enter Try.func7, Try.ntmps7
  go_wp2_with (first
    | (refine wl_made (bs := []) (t := 33) hS.out ?_; intro wB hS9; replace hS := Lib.hid hS9; clear hS9)
    | (refine wl_made (t := 33) hS.out ?_; intro w9 hS9; replace hS := Lib.hid hS9; clear hS9)
    | (refine wl_loadAll (T := 33) hS.out (by rfl) rfl (by rfl) Try.underlying33 rfl Try.size33 (by repeat (first | exact At.here | apply At.there)) (by rfl) ?_)
    | (refine wl_storeAll (T := 33) hS.out (by rfl) rfl (by rfl) (by rfl) (by exact Try.size33) (by repeat (first | exact At.here | apply At.there)) (by rfl) (by rfl) ?_; intro w9 hS9; replace hS := Lib.hid hS9; clear hS9)
    | (go_at_call 16; have _t := tb1; refine (bytes_ _ xs la lc (hl.out.new hS.out.isNew) hl2.out).mono ?_; clear _t tb1; rintro e w9 ⟨⟨ta, tc, rfl, ho, hfr⟩, x⟩; replace hS := Lib.hid ((hS.out.call x).own ho (by simp)); clear x ho; replace hfr := Lib.hid hfr)
    | (at_builtin; have _t := ta1; refine wl_append hS.out (by rfl) rfl Try.underlying36 Try.info5 rfl (by decide) (v := .slice ta (mbytes xs).length tc) (by rfl) (hS.out.get (bytesF (.slice ta (mbytes xs).length tc) (mbytes xs)) (by simp)) (xv := .slice ra zs.length rc) (by rfl) (src_rd (hr.out.new hS.out.isNew)) (by unfold maxLen; omega) (by omega) ?_; clear _t ta1; intro v9 w9 hown Xg hat; rw [hTl.out, hTv.out] at hown; replace hS := Lib.hid ((hS.out.app0 (own1 5 1 (.slice ta (mbytes xs).length tc) (mbytes xs).length (bytesV (mbytes xs))) (List.Mem.head _) hfr.out Xg).own hown (by simp)); obtain ⟨at_, ct, rfl⟩ := own_form hown; have hcap := Lib.hid (own_cap hown); clear hown Xg hat)
    | (go_at_call 11; have _t := tf1; refine (feed_r _ ez T (s1, X1) none at_ 0 ct (Ints.nil _) (rd_bytes (hS.out.get (bytesF (.slice at_ T.length ct) T) (by simp))) hT.out.1 hT.out.2 ez_wf h1.out).mono ?_; clear _t tf1; rintro e w9 ⟨⟨a1, c1, b1, d1, L1, rfl, hI, hL, hq1⟩, x⟩; replace hS := Lib.hid (((hS.out.call x).own hI (by simp)).acts hL (by simp)); clear x hI hL; replace hq1 := Lib.hid hq1))
  go_quiet (fail)
  refine absorb_Q (hS.out.drewN nq) ?_
  simp only [hA, hB]
  clear hA hB q1 q2 q3 q4
  intro w9 hS9; replace hS := Lib.hid hS9; clear hS9
  go_wp2_with (first
    | (refine wl_made (bs := []) (t := 33) hS.out ?_; intro wB hS9; replace hS := Lib.hid hS9; clear hS9)
    | (refine wl_made (t := 33) hS.out ?_; intro w9 hS9; replace hS := Lib.hid hS9; clear hS9)
    | (refine wl_loadAll (T := 33) hS.out (by rfl) rfl (by rfl) Try.underlying33 rfl Try.size33 (by repeat (first | exact At.here | apply At.there)) (by rfl) ?_)
    | (refine wl_storeAll (T := 33) hS.out (by rfl) rfl (by rfl) (by rfl) (by exact Try.size33) (by repeat (first | exact At.here | apply At.there)) (by rfl) (by rfl) ?_; intro w9 hS9; replace hS := Lib.hid hS9; clear hS9)
    | (go_at_call 11; have _t := tf1; refine (feed_r _ ez T (s1, X1) none at_ 0 ct (Ints.nil _) (rd_bytes (hS.out.get (bytesF (.slice at_ T.length ct) T) (by simp))) hT.out.1 hT.out.2 ez_wf h1.out).mono ?_; clear _t tf1; rintro e w9 ⟨⟨a1, c1, b1, d1, L1, rfl, hI, hL, hq1⟩, x⟩; replace hS := Lib.hid (((hS.out.call x).own hI (by simp)).acts hL (by simp)); clear x hI hL; replace hq1 := Lib.hid hq1))
  all_goals
    obtain ⟨B2, B1, e1, e2⟩ := hS.out.names2
    rw [← e1, ← e2] at hS
    rw [← e1, ← e2]
    replace e1 := Lib.hid e1
    replace e2 := Lib.hid e2
    have c0 : lo ≤ ct := by have := hcap.out; omega
    have c1_ : lo ≤ ct := by have := hcap.out; omega
    refine region_St0 hS.out (fun _ => true) (by kernel_rfl) ?_
    intro w9 hR hS9; replace hS := Lib.hid hS9; clear hS9
    refine wpJ_take 0 (oi := { dst := some 53, op := Op.move (Operand.tmp 9), type := 36, pos := "law.go:58", after := #[], guard := none }) rfl (by kernel_rfl) (by kernel_rfl) (fun _ _ _ h => h) hR (y_move (by rfl) rfl (by rfl)) (fun _ => ?_)
    try simp only [Act.put, Act.eval, Array.getD_eq_getD_getElem?, List.getElem?_toArray, List.getElem?_cons_succ, List.getElem?_cons_zero, Option.getD_some, List.setIfInBounds_toArray, List.set_cons_zero, List.set_cons_succ]
    refine wpJ_take 1 (oi := { dst := some 54, op := Op.move (Operand.tmp 10), type := 3, pos := "law.go:58", after := #[], guard := none }) rfl (by kernel_rfl) (by kernel_rfl) (fun _ _ _ h => h) hR (y_move (by rfl) rfl (by rfl)) (fun _ => ?_)
    try simp only [Act.put, Act.eval, Array.getD_eq_getD_getElem?, List.getElem?_toArray, List.getElem?_cons_succ, List.getElem?_cons_zero, Option.getD_some, List.setIfInBounds_toArray, List.set_cons_zero, List.set_cons_succ]
    refine wpJ_take 2 (oi := { dst := some 55, op := Op.slice 36 (Operand.tmp 53) none (some (Operand.tmp 54)) none, type := 36, pos := "law.go:58", after := #[{ on := 0, ground := Ground.data }, { on := 1, ground := Ground.data }], guard := none }) rfl (by kernel_rfl) (by kernel_rfl) (fun _ _ _ h => h) hR (y_slice_to (by rfl) rfl Try.underlying36 Try.size5 (by rfl) (by rfl) c0) (fun _ => ?_)
    try simp only [Act.put, Act.eval, Array.getD_eq_getD_getElem?, List.getElem?_toArray, List.getElem?_cons_succ, List.getElem?_cons_zero, Option.getD_some, List.setIfInBounds_toArray, List.set_cons_zero, List.set_cons_succ]
    refine wpJ_take 3 (oi := { dst := some 56, op := Op.move (Operand.tmp 9), type := 36, pos := "law.go:58", after := #[], guard := none }) rfl (by kernel_rfl) (by kernel_rfl) (fun _ _ _ h => h) hR (y_move (by rfl) rfl (by rfl)) (fun _ => ?_)
    try simp only [Act.put, Act.eval, Array.getD_eq_getD_getElem?, List.getElem?_toArray, List.getElem?_cons_succ, List.getElem?_cons_zero, Option.getD_some, List.setIfInBounds_toArray, List.set_cons_zero, List.set_cons_succ]
    refine wpJ_take 4 (oi := { dst := some 57, op := Op.move (Operand.tmp 10), type := 3, pos := "law.go:58", after := #[], guard := none }) rfl (by kernel_rfl) (by kernel_rfl) (fun _ _ _ h => h) hR (y_move (by rfl) rfl (by rfl)) (fun _ => ?_)
    try simp only [Act.put, Act.eval, Array.getD_eq_getD_getElem?, List.getElem?_toArray, List.getElem?_cons_succ, List.getElem?_cons_zero, Option.getD_some, List.setIfInBounds_toArray, List.set_cons_zero, List.set_cons_succ]
    refine wpJ_take 5 (oi := { dst := some 58, op := Op.move (Operand.tmp 11), type := 3, pos := "law.go:58", after := #[], guard := none }) rfl (by kernel_rfl) (by kernel_rfl) (fun _ _ _ h => h) hR (y_move (by rfl) rfl (by rfl)) (fun _ => ?_)
    try simp only [Act.put, Act.eval, Array.getD_eq_getD_getElem?, List.getElem?_toArray, List.getElem?_cons_succ, List.getElem?_cons_zero, Option.getD_some, List.setIfInBounds_toArray, List.set_cons_zero, List.set_cons_succ]
    refine wpJ_take 6 (oi := { dst := some 59, op := Op.slice 36 (Operand.tmp 56) (some (Operand.tmp 57)) (some (Operand.tmp 58)) none, type := 36, pos := "law.go:58", after := #[{ on := 3, ground := Ground.data }, { on := 4, ground := Ground.data }, { on := 5, ground := Ground.data }], guard := none }) rfl (by kernel_rfl) (by kernel_rfl) (fun _ _ _ h => h) hR (y_slice2 (by rfl) rfl Try.underlying36 Try.size5 (by rfl) (by rfl) (by rfl) hlh c1_) (fun _ => ?_)
    try simp only [Act.put, Act.eval, Array.getD_eq_getD_getElem?, List.getElem?_toArray, List.getElem?_cons_succ, List.getElem?_cons_zero, Option.getD_some, List.setIfInBounds_toArray, List.set_cons_zero, List.set_cons_succ]
    refine wpJ_take 7 (oi := { dst := some 60, op := Op.move (Operand.tmp 9), type := 36, pos := "law.go:58", after := #[], guard := none }) rfl (by kernel_rfl) (by kernel_rfl) (fun _ _ _ h => h) hR (y_move (by rfl) rfl (by rfl)) (fun _ => ?_)
    try simp only [Act.put, Act.eval, Array.getD_eq_getD_getElem?, List.getElem?_toArray, List.getElem?_cons_succ, List.getElem?_cons_zero, Option.getD_some, List.setIfInBounds_toArray, List.set_cons_zero, List.set_cons_succ]
    refine wpJ_take 8 (oi := { dst := some 61, op := Op.move (Operand.tmp 11), type := 3, pos := "law.go:58", after := #[], guard := none }) rfl (by kernel_rfl) (by kernel_rfl) (fun _ _ _ h => h) hR (y_move (by rfl) rfl (by rfl)) (fun _ => ?_)
    try simp only [Act.put, Act.eval, Array.getD_eq_getD_getElem?, List.getElem?_toArray, List.getElem?_cons_succ, List.getElem?_cons_zero, Option.getD_some, List.setIfInBounds_toArray, List.set_cons_zero, List.set_cons_succ]
    refine wpJ_take 9 (oi := { dst := some 62, op := Op.slice 36 (Operand.tmp 60) (some (Operand.tmp 61)) none none, type := 36, pos := "law.go:58", after := #[{ on := 7, ground := Ground.data }, { on := 8, ground := Ground.data }], guard := none }) rfl (by kernel_rfl) (by kernel_rfl) (fun _ _ _ h => h) hR (y_slice_from (by rfl) rfl Try.underlying36 Try.size5 (by rfl) (by rfl) hh) (fun _ => ?_)
    try simp only [Act.put, Act.eval, Array.getD_eq_getD_getElem?, List.getElem?_toArray, List.getElem?_cons_succ, List.getElem?_cons_zero, Option.getD_some, List.setIfInBounds_toArray, List.set_cons_zero, List.set_cons_succ]
    refine wpJ_take 12 (oi := { dst := some 65, op := Op.move (Operand.const (Value.int IntKind.i64 0)), type := 3, pos := "law.go:58", after := #[], guard := none }) rfl (by kernel_rfl) (by kernel_rfl) (fun _ _ _ h => h) hR (y_move (by rfl) rfl (by rfl)) (fun _ => ?_)
    try simp only [Act.put, Act.eval, Array.getD_eq_getD_getElem?, List.getElem?_toArray, List.getElem?_cons_succ, List.getElem?_cons_zero, Option.getD_some, List.setIfInBounds_toArray, List.set_cons_zero, List.set_cons_succ]
    refine wpJ_one 10 (oi := { dst := some 63, op := Op.buildSlice 44 3 #[(0, Operand.tmp 55), (1, Operand.tmp 59), (2, Operand.tmp 62)], type := 44, pos := "law.go:58", after := #[{ on := 2, ground := Ground.data }, { on := 6, ground := Ground.data }, { on := 9, ground := Ground.data }], guard := none }) rfl (by kernel_rfl) ?_
    intro K hK
    refine sw (by rfl) ?_
    refine st_made hS.out (by go_simp; (first | done | exact ⟨rfl, rfl⟩)) ?_
    intro w9 hS9; replace hS := Lib.hid hS9; clear hS9
    refine hK _ _ (fun _ => (by repeat (first | exact rows_nil _ | refine rows_here hS.out (by repeat (first | exact At.here | apply At.there)) ?_))) ?_
    clear hK K
    replace hR := rows_of hR w9 (by repeat (first | exact rows_nil _ | refine rows_here hS.out (by repeat (first | exact At.here | apply At.there)) ?_))
    try simp only [Act.put, Act.eval, Array.getD_eq_getD_getElem?, List.getElem?_toArray, List.getElem?_cons_succ, List.getElem?_cons_zero, Option.getD_some, List.setIfInBounds_toArray, List.set_cons_zero, List.set_cons_succ]
    refine wpJ_take 11 (oi := { dst := some 64, op := Op.call { callee := Callee.builtin Builtin.len, args := #[Operand.tmp 63], argTypes := #[44] }, type := 3, pos := "law.go:58", after := #[{ on := 10, ground := Ground.data }], guard := none }) rfl (by kernel_rfl) (by kernel_rfl) (fun _ _ _ h => h) hR (Or.inl ⟨by rfl, (by intro W hW; clear hW; go_simp; (first | done | with_reducible rfl))⟩) (fun _ => ?_)
    try simp only [Act.put, Act.eval, Array.getD_eq_getD_getElem?, List.getElem?_toArray, List.getElem?_cons_succ, List.getElem?_cons_zero, Option.getD_some, List.setIfInBounds_toArray, List.set_cons_zero, List.set_cons_succ]
    refine wpJ_done _ (by kernel_rfl) ?_
    go_wp2_with fail
    obtain ⟨B3, e3⟩ := hS.out.names3
    rw [← e3] at hS
    rw [← e3]
    replace e3 := Lib.hid e3
    obtain ⟨ps, hp3, hpc, hprd, hpT⟩ := pieces_of T at_ ct lo lo hlh hh hcap.out
    first | rw [hpc] at hS | (simp only [Nat.sub_self] at hpc; rw [hpc] at hS)
    clear hpc
    replace hprd := Lib.hid hprd
    replace hpT := Lib.hid hpT
    replace hp3 := Lib.hid hp3
    try simp only [Nat.sub_self]
    go_loopw [14, 65] (fun v i wr => ∃ (k : Nat) (u : Es) (L : List (Ac × Value)) (a' : Option Addr) (c' : Nat) (b2 : Option Addr) (d2 : Nat), k ≤ 3 ∧ i = .int .i64 k ∧ v = .slice b2 L.length d2 ∧ Hid (St (fun _ => False) w wr [(B3, 36, ps.map pv), (B2, 33, [.int .i64 u.m, .int .i64 u.nd, .int .i64 u.mn, .int .i64 u.gt, .slice a' u.par.length c', .int .i64 u.nu, .bool u.pv, .bool u.sk]), (B1, 33, [.int .i64 s1.m, .int .i64 s1.nd, .int .i64 s1.mn, .int .i64 s1.gt, .slice a1 s1.par.length c1, .int .i64 s1.nu, .bool s1.pv, .bool s1.sk])] [intsF (.slice a' u.par.length c') u.par, actsF (.slice b2 L.length d2) L, actsF (.slice b1 L1.length d1) L1, own1 3 1 (.slice a1 s1.par.length c1) s1.par.length (ints s1.par), own1 5 1 (.slice at_ T.length ct) T.length (bytesV T)]) ∧ Hid (Fresh w.heap.size (.slice b2 L.length d2)) ∧ Hid (∀ k, (actsF (.slice b1 L1.length d1) L1).foot k → ¬ Bk (.slice b2 L.length d2) k) ∧ Hid (mfeed ((ps.take k).map (·.2.1)).flatten ez [] = (u, acs L)) ∧ Hid (Wf u)) (fun _ i _ => 3 - (intOf i).toNat)
    case atStart => exact ⟨0, ez, [], none, 0, none, 0, by omega, rfl, rfl, Lib.hid (St.drop ((hS.out.own (t := 3) (size := 1) (v := .slice none 0 0) (n := 0) (xs := []) (World.ownsRow_nil _ _ _ _) (by simp)).acts (Acts.nil _) (by simp)) (by intro f hf; simp only [List.mem_cons, List.not_mem_nil, or_false] at hf; (repeat' (rcases hf with hf | hf)); all_goals ((try subst hf); first | exact List.Mem.head _ | exact List.Mem.tail _ (List.Mem.head _) | exact List.Mem.tail _ (List.Mem.tail _ (List.Mem.head _)) | exact List.Mem.tail _ (List.Mem.tail _ (List.Mem.tail _ (List.Mem.head _))) | exact List.Mem.tail _ (List.Mem.tail _ (List.Mem.tail _ (List.Mem.tail _ (List.Mem.head _)))) | exact List.Mem.tail _ (List.Mem.tail _ (List.Mem.tail _ (List.Mem.tail _ (List.Mem.tail _ (List.Mem.head _)))))))), Lib.hid (Fresh.nil _), Lib.hid (fun k _ h => by simp [Bk, Value.ownBlock] at h), Lib.hid rfl, Lib.hid ez_wf⟩
    case round =>
      obtain ⟨k, u, L, a', c', b2, d2, hk, rfl, rfl, hS, hfr2, hdj, hm, hwu⟩ := hrel
      by_cases hk3 : k < 3
      · have hkl : k < ps.length := by rw [hp3.out]; exact hk3
        obtain ⟨p, hp⟩ : ∃ p, ps[k] = p := ⟨_, rfl⟩
        have hpm : p ∈ ps := by rw [← hp]; exact List.getElem_mem hkl
        have hrp := hprd.out wr (rd_bytes (hS.out.get (bytesF (.slice at_ T.length ct) T) (by simp))) p hpm
        have hvp : (ps.map pv)[k]? = some (pv p) := by simp [hkl, hp]
        have hsp := piece_in ps T hpT.out p hpm
        obtain ⟨hpre, hnext⟩ := pre_in ps T hpT.out k hkl p hp
        have hbd := hT.out.1
        have w1 := wf_feed ((ps.take k).map (·.2.1)).flatten (fun x hx => hbd x (hpre.subset hx)) ez [] ez_wf
        rw [hm.out] at w1
        have hLb : L.length ≤ 2440 := by have := w1.2; have := hpre.length_le; simp [acs] at this w1; omega
        obtain ⟨pa, pz, pc⟩ := p
        simp only at hrp hsp hnext
        obtain ⟨u2, M2, hf⟩ : ∃ u2 M2, mfeed pz u [] = (u2, M2) := ⟨_, _, rfl⟩
        have hpz : ∀ z ∈ pz, 0 ≤ z ∧ z ≤ 255 := fun z hz => hbd z (hsp.subset hz)
        have hpn : pz.length ≤ 1220 := Nat.le_trans hsp.length_le hTn
        have w2 := wf_feed pz hpz u [] hwu.out
        rw [hf] at w2
        have hMb : M2.length ≤ 2440 := by have := w2.2; simp at this; omega
        have hm2 : mfeed ((ps.take (k + 1)).map (·.2.1)).flatten ez [] = (u2, acs L ++ M2) := by
          rw [hnext, mfeed_append, hm.out, mfeed_out, hf]
        have hwu2 := Lib.hid w2.1
        clear w1 w2 hpre hnext hbd hp hpm hm hsp hkl
        replace hrp := Lib.hid hrp
        replace hvp := Lib.hid hvp
        replace hf := Lib.hid hf
        replace hm2 := Lib.hid hm2
        replace hpz := Lib.hid hpz
        have tf2 : True := trivial
        go_wp2_with (first
    | (refine wl_made (bs := []) (t := 33) hS.out ?_; intro wB hS9; replace hS := Lib.hid hS9; clear hS9)
    | (refine wl_made (t := 33) hS.out ?_; intro w9 hS9; replace hS := Lib.hid hS9; clear hS9)
    | (refine wl_loadAll (T := 33) hS.out (by rfl) rfl (by rfl) Try.underlying33 rfl Try.size33 (by repeat (first | exact At.here | apply At.there)) (by rfl) ?_)
    | (refine wl_storeAll (T := 33) hS.out (by rfl) rfl (by rfl) (by rfl) (by exact Try.size33) (by repeat (first | exact At.here | apply At.there)) (by rfl) (by rfl) ?_; intro w9 hS9; replace hS := Lib.hid hS9; clear hS9)
    | (refine wl_load1 (T := 36) (v := .slice pa pz.length pc) hS.out (by rfl) rfl (by rfl) Try.underlying36 rfl (by repeat (first | exact At.here | apply At.there)) hvp.out ?_)
    | (go_at_call 11; have _t := tf2; refine (feed_r _ u pz (u2, M2) a' pa c' pc (hS.out.get (intsF (.slice a' u.par.length c') u.par) (by simp)) hrp.out hpz.out (by omega) hwu.out hf.out).mono ?_; clear _t tf2; rintro e w9 ⟨⟨a3, c3, b3, d3, M, rfl, hI, hM, hq2⟩, x⟩; replace hS := Lib.hid (((hS.out.call x).own hI (by simp)).acts hM (by simp)); clear x hI hM; replace hq2 := Lib.hid hq2))
        refine region_St1 hS.out 0 (fun _ => true) (by kernel_rfl) (by rfl) ?_
        intro w9 hR hS9; replace hS := Lib.hid hS9; clear hS9
        refine wpJ_take 0 (oi := { dst := some 75, op := Op.load 33 (Operand.tmp 18), type := 33, pos := "law.go:60", after := #[], guard := none }) rfl (by kernel_rfl) (by kernel_rfl) (fun _ _ _ h => h) hR (y_loadAll (T := 33) (by rfl) rfl (by rfl) Try.underlying33 rfl Try.size33 (by repeat (first | exact At.here | apply At.there)) (by rfl)) (fun _ => ?_)
        try simp only [Act.put, Act.eval, Array.getD_eq_getD_getElem?, List.getElem?_toArray, List.getElem?_cons_succ, List.getElem?_cons_zero, Option.getD_some, List.setIfInBounds_toArray, List.set_cons_zero, List.set_cons_succ]
        refine wpJ_take 1 (oi := { dst := some 76, op := Op.move (Operand.tmp 14), type := 27, pos := "law.go:60", after := #[], guard := none }) rfl (by kernel_rfl) (by kernel_rfl) (fun _ _ _ h => h) hR (y_move (by rfl) rfl (by rfl)) (fun _ => ?_)
        try simp only [Act.put, Act.eval, Array.getD_eq_getD_getElem?, List.getElem?_toArray, List.getElem?_cons_succ, List.getElem?_cons_zero, Option.getD_some, List.setIfInBounds_toArray, List.set_cons_zero, List.set_cons_succ]
        refine wpJ_take 2 (oi := { dst := some 77, op := Op.move (Operand.tmp 19), type := 27, pos := "law.go:60", after := #[], guard := none }) rfl (by kernel_rfl) (by kernel_rfl) (fun _ _ _ h => h) hR (y_move (by rfl) rfl (by rfl)) (fun _ => ?_)
        try simp only [Act.put, Act.eval, Array.getD_eq_getD_getElem?, List.getElem?_toArray, List.getElem?_cons_succ, List.getElem?_cons_zero, Option.getD_some, List.setIfInBounds_toArray, List.set_cons_zero, List.set_cons_succ]
        refine wpJ_one 3 (oi := { dst := some 78, op := Op.call { callee := Callee.builtin Builtin.append, args := #[Operand.tmp 76, Operand.tmp 77], argTypes := #[27, 27] }, type := 27, pos := "law.go:60", after := #[{ on := 1, ground := Ground.data }, { on := 2, ground := Ground.data }], guard := none }) rfl (by kernel_rfl) ?_
        intro K hK
        refine sw (by rfl) ?_
        have hM1 : M.length ≤ 2440 := by have := congrArg List.length hq2.out; simp only [acs_len] at this; omega
        refine st_append hS.out rfl Try.underlying27 Try.info24 rfl (by decide) (v := .slice b2 L.length d2) (by rfl) (hS.out.get (actsF (.slice b2 L.length d2) L) (by simp)).own (xv := .slice b3 M.length d3) (by rfl) (Src.own Try.underlying27 (hS.out.get (actsF (.slice b3 M.length d3) M) (by simp)).own (Acts.one' (hS.out.get (actsF (.slice b3 M.length d3) M) (by simp)).par)) (by unfold maxLen; omega) (by omega) ?_
        intro v9 w9 hown Xg hat
        obtain ⟨b4, d4, rfl⟩ := own_form hown
        have hfr3 := Lib.hid (hfr2.out.app hS.out.ext.size hat)
        have hdj3 := Lib.hid (fun k (hk : (actsF (.slice b1 L1.length d1) L1).foot k) (h : Bk (.slice b4 (L.length + M.length) d4) k) => (hat k h).elim (hdj.out k hk) (fun e => Nat.ne_of_lt ((actsF (.slice b1 L1.length d1) L1).lt _ (hS.out.get (actsF (.slice b1 L1.length d1) L1) (by simp)) k hk) e))
        have hA1 : Acts _ (.slice b2 L.length d2) L := (hS.out.get (actsF (.slice b2 L.length d2) L) (by simp))
        have hI2 := hS.out.get (intsF (.slice a3 u2.par.length c3) u2.par) (by simp)
        have hI3 := hS.out.get (own1 3 1 (.slice a1 s1.par.length c1) s1.par.length (ints s1.par)) (by simp)
        have hI4 := hS.out.get (own1 5 1 (.slice at_ T.length ct) T.length (bytesV T)) (by simp)
        replace hS := Lib.hid (hS.out.app2 (v1 := .slice b2 L.length d2) (v2 := .slice b3 M.length d3) (ks' := [intsF (.slice a3 u2.par.length c3) u2.par, actsF (.slice b1 L1.length d1) L1, own1 3 1 (.slice a1 s1.par.length c1) s1.par.length (ints s1.par), own1 5 1 (.slice at_ T.length ct) T.length (bytesV T)]) (by simp) (by simp) hfr2.out hown Xg (by intro f hf; simp only [List.mem_cons, List.not_mem_nil, or_false] at hf; rcases hf with rfl | rfl | rfl | rfl <;> first | exact ⟨by simp, hdj.out⟩ | exact ⟨by simp, apart_own hA1 hI2 (by decide)⟩ | exact ⟨by simp, apart_own hA1 hI3 (by decide)⟩ | exact ⟨by simp, apart_own hA1 hI4 (by decide)⟩) (by simp))
        clear hown Xg hat hA1 hI2 hI3 hI4
        refine hK _ _ (fun _ => (by repeat (first | exact rows_nil _ | refine rows_here hS.out (by repeat (first | exact At.here | apply At.there)) ?_))) ?_
        clear hK K
        replace hR := rows_of hR w9 (by repeat (first | exact rows_nil _ | refine rows_here hS.out (by repeat (first | exact At.here | apply At.there)) ?_))
        try simp only [Act.put, Act.eval, Array.getD_eq_getD_getElem?, List.getElem?_toArray, List.getElem?_cons_succ, List.getElem?_cons_zero, Option.getD_some, List.setIfInBounds_toArray, List.set_cons_zero, List.set_cons_succ]
        refine wpJ_one 4 (oi := { dst := none, op := Op.store 33 (Operand.tmp 15) (Operand.tmp 75), type := 0, pos := "law.go:60", after := #[{ on := 0, ground := Ground.data }, { on := 3, ground := Ground.chain }, { on := 0, ground := Ground.phase }, { on := 1, ground := Ground.textOnly Departure.lateStores }, { on := 2, ground := Ground.textOnly Departure.lateStores }, { on := 3, ground := Ground.textOnly Departure.lateStoresUnsure }], guard := none }) rfl (by kernel_rfl) ?_
        intro K hK
        refine sw (by rfl) ?_
        refine st_storeAll (T := 33) hS.out rfl (by rfl) (by rfl) (by exact Try.size33) (by repeat (first | exact At.here | apply At.there)) (by rfl) (by rfl) ?_; intro w9 hS9; replace hS := Lib.hid hS9; clear hS9
        refine hK _ _ (fun _ => (by repeat (first | exact rows_nil _ | refine rows_here hS.out (by repeat (first | exact At.here | apply At.there)) ?_))) ?_
        clear hK K
        replace hR := rows_of hR w9 (by repeat (first | exact rows_nil _ | refine rows_here hS.out (by repeat (first | exact At.here | apply At.there)) ?_))
        try simp only [Act.put, Act.eval, Array.getD_eq_getD_getElem?, List.getElem?_toArray, List.getElem?_cons_succ, List.getElem?_cons_zero, Option.getD_some, List.setIfInBounds_toArray, List.set_cons_zero, List.set_cons_succ]
        refine wpJ_take 5 (oi := { dst := some 14, op := Op.assign (Operand.tmp 78), type := 27, pos := "law.go:60", after := #[{ on := 3, ground := Ground.data }, { on := 4, ground := Ground.chain }, { on := 0, ground := Ground.phase }, { on := 1, ground := Ground.phase }, { on := 2, ground := Ground.phase }, { on := 3, ground := Ground.phase }, { on := 4, ground := Ground.phase }], guard := none }) rfl (by kernel_rfl) (by kernel_rfl) (fun _ _ _ h => h) hR (y_assign (by rfl) rfl (by rfl)) (fun _ => ?_)
        try simp only [Act.put, Act.eval, Array.getD_eq_getD_getElem?, List.getElem?_toArray, List.getElem?_cons_succ, List.getElem?_cons_zero, Option.getD_some, List.setIfInBounds_toArray, List.set_cons_zero, List.set_cons_succ]
        refine wpJ_done _ (by kernel_rfl) ?_
        go_wp2_with fail
        go_roundw
        case rel => exact ⟨k + 1, u2, L ++ M, a3, c3, b4, d4, by omega, by go_num, by simp, Lib.hid (by rw [List.length_append]; exact St.drop (hS.out.forget (List.sublist_cons_self _ _)) (by intro f hf; simp only [List.mem_cons, List.not_mem_nil, or_false] at hf; (repeat' (rcases hf with hf | hf)); all_goals ((try subst hf); first | exact List.Mem.head _ | exact List.Mem.tail _ (List.Mem.head _) | exact List.Mem.tail _ (List.Mem.tail _ (List.Mem.head _)) | exact List.Mem.tail _ (List.Mem.tail _ (List.Mem.tail _ (List.Mem.head _))) | exact List.Mem.tail _ (List.Mem.tail _ (List.Mem.tail _ (List.Mem.tail _ (List.Mem.head _)))) | exact List.Mem.tail _ (List.Mem.tail _ (List.Mem.tail _ (List.Mem.tail _ (List.Mem.tail _ (List.Mem.head _)))))))), Lib.hid (by rw [List.length_append]; exact hfr3.out), Lib.hid (by rw [List.length_append]; exact hdj3.out), by rw [Hid, show acs (L ++ M) = acs L ++ acs M from by simp [acs], hq2.out]; exact hm2.out, hwu2⟩
        case measure => simp [intOf]; omega
      · have hke : k = 3 := by omega
        subst hke
        have hfin : mfeed T ez [] = (u, acs L) := by
          rw [← hm.out, ← hpT.out, List.take_of_length_le (by rw [hp3.out]; exact Nat.le_refl _)]
        have hus : u = s1 ∧ acs L = X1 := by
          have := hfin.symm.trans h1.out
          injection this with e1 e2
          exact ⟨e1, e2⟩
        obtain ⟨hus, hLX⟩ := hus
        subst hus
        have hfd := wf_feed T hT.out.1 ez [] ez_wf
        have hsm := small_feed T hT.out.1 ez [] ez_wf small_nil
        rw [h1.out] at hfd hsm
        have hlu : u.par.length ≤ 1000 := by have := hfd.1.2.1; simp only at this; omega
        have hy : X1.length ≤ 1000000 := by have := hfd.2; simp at this; omega
        have hs := Lib.hid (show ∀ y ∈ X1, y.par.length ≤ 1000 from hsm)
        replace hLX := Lib.hid hLX
        clear hfd hsm hfin hm
        go_wp2_with (first
    | (refine wl_made (bs := []) (t := 33) hS.out ?_; intro wB hS9; replace hS := Lib.hid hS9; clear hS9)
    | (refine wl_made (t := 33) hS.out ?_; intro w9 hS9; replace hS := Lib.hid hS9; clear hS9)
    | (refine wl_loadAll (T := 33) hS.out (by rfl) rfl (by rfl) Try.underlying33 rfl Try.size33 (by repeat (first | exact At.here | apply At.there)) (by rfl) ?_)
    | (refine wl_storeAll (T := 33) hS.out (by rfl) rfl (by rfl) (by rfl) (by exact Try.size33) (by repeat (first | exact At.here | apply At.there)) (by rfl) (by rfl) ?_; intro w9 hS9; replace hS := Lib.hid hS9; clear hS9)
    | (go_at_call 15; refine (sameEsc_ _ u a1 a' c1 c' (hS.out.get (own1 3 1 (.slice a1 u.par.length c1) u.par.length (ints u.par)) (by simp)) (hS.out.get (intsF (.slice a' u.par.length c') u.par) (by simp)) hlu).mono ?_; rintro e w9 ⟨rfl, x⟩; replace hS := Lib.hid (hS.out.call x); clear x)
    | (go_at_call 12; refine (sameActions_t _ L1 L X1 b1 b2 d1 d2 (hS.out.get (actsF (.slice b1 L1.length d1) L1) (by simp)) (hS.out.get (actsF (.slice b2 L.length d2) L) (by simp)) hq1.out hLX.out hy hs.out).mono ?_; rintro e w9 ⟨rfl, x⟩; replace hS := Lib.hid (hS.out.call x); clear x)
    | (go_at_call 13; refine (awake_ _).mono ?_; rintro e w9 ⟨rfl, x⟩; replace hS := Lib.hid (hS.out.call x); clear x))
        go_ret
        exact ⟨rfl, hS.out.isNew⟩
end Go.Proofs.Ytbcpbndhkainnaa
