/- A byte on the ground. -/
import Derived.Test.YtbcpbndhkainnaaEsCsi
import Derived.Outline
namespace Go.Proofs.Ytbcpbndhkainnaa
open Go.RowKit
set_option linter.unusedSimpArgs false
set_option linter.unusedVariables false
theorem mutf_bd (u : Ut) (b : Int) (hb : 0 ≤ b) (hb2 : b ≤ 255) (hg : 0 ≤ u.gt) : ∀ r ∈ (mutf u b).2, 0 ≤ r ∧ r ≤ 1114111 := by
  have hbg : ∀ r ∈ (mbegin b).2, 0 ≤ r ∧ r ≤ 1114111 := by
    intro r hr
    unfold mbegin at hr
    repeat' split at hr
    all_goals (simp at hr; try omega)
  intro r hr
  unfold mutf at hr
  repeat' split at hr
  · exact hbg r hr
  · rcases List.mem_cons.1 hr with rfl | h
    · omega
    · exact hbg r h
  · simp at hr
  · simp at hr; omega
  · rename_i hno
    simp at hr
    subst hr
    simp [mno] at hno
    omega
theorem mutf_len (u : Ut) (b : Int) : (mutf u b).2.length ≤ 2 := by
  have := mbegin_len b
  unfold mutf
  repeat' split
  all_goals (simp; try omega)
theorem msigns_cons (r : Int) (l : List Int) (s : Es) (out : List Ac) : msigns (r :: l) s out = msigns l (msign s r).1 (out ++ (msign s r).2) := rfl
/-- A row that lies above n. -/
def Fresh (n : Nat) (v : Value) : Prop := ∀ k, Bk v k → n ≤ k
theorem Fresh.nil (n : Nat) : Fresh n (.slice none 0 0) := fun k hk => by simp [Bk, Value.ownBlock] at hk
theorem msign_nu (s : Es) (r : Int) : (msign s r).2.length ≤ 1 := by
  unfold msign mcontrol
  repeat' split
  all_goals simp
theorem acts_app {w w9 : World} {v1 v2 v' : Value} {L M : List (Ac × Value)} (h1 : Acts w v1 L) (h2 : Acts w v2 M) (hown : w9.ownsRow 0 24 3 v' (L.length + M.length) (acVs L ++ acVs M)) (x : Ext (Bk v1) w w9) : Acts w9 v' (L ++ M) := by
  refine ⟨by rw [List.length_append, acVs_append]; exact hown, fun y hy => ?_⟩
  rcases List.mem_append.1 hy with h | h
  · exact own_ext (h1.par y h) x (own_ne2 (h1.par y h) h1.own (by decide))
  · exact own_ext (h2.par y h) x (own_ne2 (h2.par y h) h1.own (by decide))
/-- A fact on a row of another type. -/
def Plain (t : Nat) (f : Fact) : Prop := ∃ t' size v n xs, t' ≠ t ∧ f = own1 t' size v n xs
theorem St.app {F : Nat → Prop} {W0 w w9 : World} {bs : List Blk} {ks ks' : List Fact} {v1 v2 v' : Value} {L M : List (Ac × Value)} (hS : St F W0 w bs ks) (h1 : actsF v1 L ∈ ks) (h2 : actsF v2 M ∈ ks) (hfr : Fresh W0.heap.size v1)
    (hown : w9.ownsRow 0 24 3 v' (L.length + M.length) (acVs L ++ acVs M)) (x : Ext (Bk v1) w w9) (hks : ∀ f ∈ ks', f ∈ ks ∧ Plain 24 f) (ht : ∀ x ∈ bs, x.2.1 ≠ 3 ∧ x.2.1 ≠ 24) : St F W0 w9 bs (actsF v' (L ++ M) :: ks') := by
  have a1 : Acts w v1 L := hS.get _ h1
  have a2 : Acts w v2 M := hS.get _ h2
  refine ((hS.drop (fun f hf => (hks f hf).1)).step x (fun y hy hk => ?_) (fun f hf k hk hk2 => ?_) (fun k hk => Or.inr (hfr k hk))).acts (acts_app a1 a2 hown x) ht
  · exact (hS.kept _ h1).2 y.1 (Or.inl hk) ⟨y, hy, rfl⟩
  · obtain ⟨hm, t', size, v, n, xs, hne, rfl⟩ := hks f hf
    exact own_ne2 (hS.get _ hm) a1.own hne k hk hk2
theorem Fresh.app {W0 w : World} {v v' : Value} (h : Fresh W0.heap.size v) (hs : W0.heap.size ≤ w.heap.size) (hat : ∀ k, Bk v' k → Bk v k ∨ k = w.heap.size) : Fresh W0.heap.size v' := fun k hk => by
  rcases hat k hk with h1 | h1
  · exact h k h1
  · omega
set_option maxHeartbeats 4000000 in
theorem ground_ (w : World) (s : Es) (b : Int) (a : Option Addr) (c : Nat) (hp : Ints w (.slice a s.par.length c) s.par) (hb : 0 ≤ b) (hb2 : b ≤ 255) (hg : 0 ≤ s.gt) (hg2 : s.gt ≤ 2097152) (hn : s.nd ≤ 3) :
    Calls Try.prog 25 #[esV s (.slice a s.par.length c), .int .u8 b] w fun e w' => REA w' e (mground s b) ∧ New w w' := by
  have hS : St (fun _ => False) w w [] [intsF (.slice a s.par.length c) s.par] := (St.init w).own hp (by simp)
  replace hS := Lib.hid hS
  clear hp
  replace hg : 0 ≤ s.ut.gt := hg
  replace hg2 : s.ut.gt ≤ 2097152 := hg2
  replace hn : s.ut.nd ≤ 3 := hn
  have hbd := mutf_bd s.ut b hb hb2 hg
  have hlen := mutf_len s.ut b
  have hmg : mground s b = msigns (mutf s.ut b).2 (s.setUt (mutf s.ut b).1) [] := rfl
  rw [hmg]; clear hmg
  obtain ⟨s0, hs0⟩ : ∃ s0, s0 = s.setUt (mutf s.ut b).1 := ⟨_, rfl⟩
  rw [← hs0]
  obtain ⟨l, hl⟩ : ∃ l, l = (mutf s.ut b).2 := ⟨_, rfl⟩
  rw [← hl] at hbd hlen ⊢
  replace hbd := Lib.hid hbd
  replace hl := Lib.hid hl
  replace hs0 := Lib.hid hs0
  go_enter Try.func25, Try.ntmps25
  go_wp2_with (first
      | (refine wl_made (bs := []) hS.out ?_; intro wB hS9; replace hS := Lib.hid hS9; clear hS9)
      | (refine wl_made hS.out ?_; intro w9 hS9; replace hS := Lib.hid hS9; clear hS9)
      | (refine wl_load1 (T := 3) hS.out (by rfl) rfl (by rfl) Try.underlying3 rfl (by repeat (first | exact At.here | apply At.there)) (by rfl) ?_)
      | (refine wl_load1 (T := 4) hS.out (by rfl) rfl (by rfl) Try.underlying4 rfl (by repeat (first | exact At.here | apply At.there)) (by rfl) ?_)
      | (refine wl_load1 (T := 22) hS.out (by rfl) rfl (by rfl) Try.underlying22 rfl (by repeat (first | exact At.here | apply At.there)) (by rfl) ?_)
      | (refine wl_loadAll (T := 33) hS.out (by rfl) rfl (by rfl) Try.underlying33 rfl Try.size33 (by repeat (first | exact At.here | apply At.there)) (by rfl) ?_)
      | (refine wl_storeAll (T := 24) hS.out (by rfl) rfl (by rfl) (by rfl) (by exact Try.size24) (by repeat (first | exact At.here | apply At.there)) (by rfl) (by rfl) ?_; intro w9 hS9; replace hS := Lib.hid hS9; clear hS9)
      | (refine wl_storeAll (T := 33) hS.out (by rfl) rfl (by rfl) (by rfl) (by exact Try.size33) (by repeat (first | exact At.here | apply At.there)) (by rfl) (by rfl) ?_; intro w9 hS9; replace hS := Lib.hid hS9; clear hS9)
      | (refine wl_store1 (v := .slice _ _ _) (T := 22) hS.out (by rfl) rfl (by rfl) (by rfl) Try.size22 (by repeat (first | exact At.here | apply At.there)) (by rfl) (by rfl) (by rfl) ?_; intro w9 hS9; simp only [List.set_cons_zero, List.set_cons_succ] at hS9; replace hS := Lib.hid hS9; clear hS9)
      | (refine wl_store1 (v := .int _ _) (T := 3) hS.out (by rfl) rfl (by rfl) (by rfl) Try.size3 (by repeat (first | exact At.here | apply At.there)) (by rfl) (by rfl) (by rfl) ?_; intro w9 hS9; simp only [List.set_cons_zero, List.set_cons_succ] at hS9; replace hS := Lib.hid hS9; clear hS9)
      | (refine wl_store1 (v := .bool _) (T := 4) hS.out (by rfl) rfl (by rfl) (by rfl) Try.size4 (by repeat (first | exact At.here | apply At.there)) (by rfl) (by rfl) (by rfl) ?_; intro w9 hS9; simp only [List.set_cons_zero, List.set_cons_succ] at hS9; replace hS := Lib.hid hS9; clear hS9)
      | (refine wl_load3 (T := 31) hS.out (by rfl) rfl (by rfl) Try.underlying31 rfl Try.size31 (by repeat (first | exact At.here | apply At.there)) (by rfl) ?_)
      | (refine wl_store3 (T := 31) hS.out (by rfl) rfl (by rfl) (by rfl) Try.size31 (by repeat (first | exact At.here | apply At.there)) (by rfl) (by rfl) ?_; intro w9 hS9; simp only [List.take_succ_cons, List.take_zero, List.drop_succ_cons, List.drop_zero, List.cons_append, List.nil_append] at hS9; replace hS := Lib.hid hS9; clear hS9)
      | (go_at_call 32; refine (utf_ _ s.ut b hb hb2 hg hg2 hn).mono ?_; rintro e w9 ⟨⟨b1, d1, rfl, hr⟩, x⟩; replace hS := Lib.hid ((hS.out.call x).own hr (by simp)); clear x hr))
  rw [← hl.out] at hS ⊢
  go_loopw [7, 22] (fun v i wr => ∃ (k : Nat) (s' : Es) (L : List (Ac × Value)) (a' : Option Addr) (c' : Nat) (b2 : Option Addr) (d2 : Nat), k ≤ l.length ∧ i = .int .i64 k ∧ v = .slice b2 L.length d2 ∧ Hid (St (fun _ => False) w wr [(wB.heap.size, 33, [.int .i64 0, .int .i64 0, .int .i64 0, .int .i64 0, .slice none 0 0, .int .i64 0, .bool false, .bool false]), (w.heap.size, 33, [.int .i64 s'.m, .int .i64 s'.nd, .int .i64 s'.mn, .int .i64 s'.gt, .slice a' s'.par.length c', .int .i64 s'.nu, .bool s'.pv, .bool s'.sk])] [runsF (.slice b1 l.length d1) l, intsF (.slice a' s'.par.length c') s'.par, actsF (.slice b2 L.length d2) L]) ∧ Hid (Fresh w.heap.size (.slice b2 L.length d2)) ∧ L.length ≤ k ∧ Hid (msigns (l.drop k) s' (acs L) = msigns l s0 [])) (fun _ i _ => l.length - (intOf i).toNat)
  case atStart =>
    refine ⟨0, s0, [], a, c, none, 0, Nat.zero_le _, rfl, rfl, ?_, Fresh.nil _, Nat.le_refl _, by simp [Hid, acs]⟩
    rw [hs0.out]
    exact Lib.hid (St.drop (hS.out.acts (Acts.nil _) (by simp)) (by intro f hf; simp only [List.mem_cons, List.not_mem_nil, or_false] at hf; (repeat' (rcases hf with hf | hf)); all_goals ((try subst hf); first | exact List.Mem.head _ | exact List.Mem.tail _ (List.Mem.head _) | exact List.Mem.tail _ (List.Mem.tail _ (List.Mem.head _)) | exact List.Mem.tail _ (List.Mem.tail _ (List.Mem.tail _ (List.Mem.head _))) | exact List.Mem.tail _ (List.Mem.tail _ (List.Mem.tail _ (List.Mem.tail _ (List.Mem.head _)))) | exact List.Mem.tail _ (List.Mem.tail _ (List.Mem.tail _ (List.Mem.tail _ (List.Mem.tail _ (List.Mem.head _))))))))
  case round =>
    obtain ⟨k, s', L, a', c', b2, d2, hk, rfl, rfl, hS, hfr, hLk, hm⟩ := hrel
    by_cases hlt : k < l.length
    · have hr := hS.out.get (runsF (.slice b1 l.length d1) l) (by simp)
      obtain ⟨g, hg0⟩ := own_addr hr (by omega)
      subst hg0
      have hc := own_cell hr k (.int .i32 l[k]) (by simp [hlt])
      obtain ⟨q1, q2⟩ := hbd.out l[k] (List.getElem_mem hlt)
      have hdr : l.drop k = l[k] :: l.drop (k + 1) := List.drop_eq_getElem_cons hlt
      generalize l[k] = r at hc q1 q2 hdr
      have hm2 : msigns (l.drop (k + 1)) (msign s' r).1 (acs L ++ (msign s' r).2) = msigns l s0 [] := by rw [← msigns_cons, ← hdr]; exact hm.out
      replace hm2 := Lib.hid hm2
      have hone := msign_nu s' r
      clear hr hdr hm
      go_wp2_with (first
    | (refine wl_made (bs := []) hS.out ?_; intro wB hS9; replace hS := Lib.hid hS9; clear hS9)
    | (refine wl_made hS.out ?_; intro w9 hS9; replace hS := Lib.hid hS9; clear hS9)
    | (refine wl_load1 (T := 3) hS.out (by rfl) rfl (by rfl) Try.underlying3 rfl (by repeat (first | exact At.here | apply At.there)) (by rfl) ?_)
    | (refine wl_load1 (T := 22) hS.out (by rfl) rfl (by rfl) Try.underlying22 rfl (by repeat (first | exact At.here | apply At.there)) (by rfl) ?_)
    | (refine wl_loadAll (T := 33) hS.out (by rfl) rfl (by rfl) Try.underlying33 rfl Try.size33 (by repeat (first | exact At.here | apply At.there)) (by rfl) ?_)
    | (refine wl_storeAll (T := 33) hS.out (by rfl) rfl (by rfl) (by rfl) (by exact Try.size33) (by repeat (first | exact At.here | apply At.there)) (by rfl) (by rfl) ?_; intro w9 hS9; replace hS := Lib.hid hS9; clear hS9)
    | (go_at_call 33; refine (sign_ _ s' r a' c' (hS.out.get (intsF (.slice a' s'.par.length c') s'.par) (by simp)) q1 q2).mono ?_; rintro e w9 ⟨⟨a3, c3, b3, d3, M, rfl, hI, hM, hacs⟩, x⟩; replace hS := Lib.hid (((hS.out.call x).own hI (by simp)).acts hM (by simp)); clear x hI hM; replace hacs := Lib.hid hacs))
      refine region_St1 hS.out 0 (fun _ => true) (by kernel_rfl) (by rfl) ?_
      intro w9 hR hS9; replace hS := Lib.hid hS9; clear hS9
      refine wpJ_take 0 (oi := { dst := some 32, op := Op.load 33 (Operand.tmp 10), type := 33, pos := "esca.go:54", after := #[], guard := none }) rfl (by kernel_rfl) (by kernel_rfl) (fun _ _ _ h => h) hR (y_loadAll (T := 33) (by rfl) rfl (by rfl) Try.underlying33 rfl Try.size33 (by repeat (first | exact At.here | apply At.there)) (by rfl)) (fun _ => ?_)
      try simp only [Act.put, Act.eval, Array.getD_eq_getD_getElem?, List.getElem?_toArray, List.getElem?_cons_succ, List.getElem?_cons_zero, Option.getD_some, List.setIfInBounds_toArray, List.set_cons_zero, List.set_cons_succ]
      refine wpJ_take 1 (oi := { dst := some 33, op := Op.move (Operand.tmp 7), type := 27, pos := "esca.go:54", after := #[], guard := none }) rfl (by kernel_rfl) (by kernel_rfl) (fun _ _ _ h => h) hR (y_move (by rfl) rfl (by rfl)) (fun _ => ?_)
      try simp only [Act.put, Act.eval, Array.getD_eq_getD_getElem?, List.getElem?_toArray, List.getElem?_cons_succ, List.getElem?_cons_zero, Option.getD_some, List.setIfInBounds_toArray, List.set_cons_zero, List.set_cons_succ]
      refine wpJ_take 2 (oi := { dst := some 34, op := Op.move (Operand.tmp 11), type := 27, pos := "esca.go:54", after := #[], guard := none }) rfl (by kernel_rfl) (by kernel_rfl) (fun _ _ _ h => h) hR (y_move (by rfl) rfl (by rfl)) (fun _ => ?_)
      try simp only [Act.put, Act.eval, Array.getD_eq_getD_getElem?, List.getElem?_toArray, List.getElem?_cons_succ, List.getElem?_cons_zero, Option.getD_some, List.setIfInBounds_toArray, List.set_cons_zero, List.set_cons_succ]
      refine wpJ_one 3 (oi := { dst := some 35, op := Op.call { callee := Callee.builtin Builtin.append, args := #[Operand.tmp 33, Operand.tmp 34], argTypes := #[27, 27] }, type := 27, pos := "esca.go:54", after := #[{ on := 1, ground := Ground.data }, { on := 2, ground := Ground.data }], guard := none }) rfl (by kernel_rfl) ?_
      intro K hK
      refine sw (by rfl) ?_
      have hM1 : M.length ≤ 1 := by have := congrArg List.length hacs.out; simp [acs] at this; omega
      refine st_append hS.out rfl Try.underlying27 Try.info24 rfl (by decide) (v := .slice b2 L.length d2) (by rfl) (hS.out.get (actsF (.slice b2 L.length d2) L) (by simp)).own (xv := .slice b3 M.length d3) (by rfl) (Src.own Try.underlying27 (hS.out.get (actsF (.slice b3 M.length d3) M) (by simp)).own (Acts.one' (hS.out.get (actsF (.slice b3 M.length d3) M) (by simp)).par)) (by unfold maxLen; omega) (by omega) ?_
      intro v9 w9 hown Xg hat
      obtain ⟨b4, d4, rfl⟩ := own_form hown
      have hfr2 := Lib.hid (hfr.out.app hS.out.ext.size hat)
      replace hS := Lib.hid (hS.out.app (v1 := .slice b2 L.length d2) (v2 := .slice b3 M.length d3) (ks' := [runsF (.slice (some ⟨g, 0, none⟩) l.length d1) l, intsF (.slice a3 (msign s' r).1.par.length c3) (msign s' r).1.par]) (by simp) (by simp) hfr.out hown Xg (by intro f hf; simp at hf; rcases hf with rfl | rfl <;> exact ⟨by simp, _, _, _, _, _, by decide, rfl⟩) (by simp))
      clear hown Xg hat
      refine hK _ _ (fun _ => (by repeat (first | exact rows_nil _ | refine rows_here hS.out (by repeat (first | exact At.here | apply At.there)) ?_))) ?_
      clear hK K
      replace hR := rows_of hR w9 (by repeat (first | exact rows_nil _ | refine rows_here hS.out (by repeat (first | exact At.here | apply At.there)) ?_))
      try simp only [Act.put, Act.eval, Array.getD_eq_getD_getElem?, List.getElem?_toArray, List.getElem?_cons_succ, List.getElem?_cons_zero, Option.getD_some, List.setIfInBounds_toArray, List.set_cons_zero, List.set_cons_succ]
      refine wpJ_one 4 (oi := { dst := none, op := Op.store 33 (Operand.tmp 2) (Operand.tmp 32), type := 0, pos := "esca.go:54", after := #[{ on := 0, ground := Ground.data }, { on := 3, ground := Ground.chain }, { on := 0, ground := Ground.phase }, { on := 1, ground := Ground.textOnly Departure.lateStores }, { on := 2, ground := Ground.textOnly Departure.lateStores }, { on := 3, ground := Ground.textOnly Departure.lateStoresUnsure }], guard := none }) rfl (by kernel_rfl) ?_
      intro K hK
      refine sw (by rfl) ?_
      refine st_storeAll (T := 33) hS.out rfl (by rfl) (by rfl) (by exact Try.size33) (by repeat (first | exact At.here | apply At.there)) (by rfl) (by rfl) ?_; intro w9 hS9; replace hS := Lib.hid hS9; clear hS9
      refine hK _ _ (fun _ => (by repeat (first | exact rows_nil _ | refine rows_here hS.out (by repeat (first | exact At.here | apply At.there)) ?_))) ?_
      clear hK K
      replace hR := rows_of hR w9 (by repeat (first | exact rows_nil _ | refine rows_here hS.out (by repeat (first | exact At.here | apply At.there)) ?_))
      try simp only [Act.put, Act.eval, Array.getD_eq_getD_getElem?, List.getElem?_toArray, List.getElem?_cons_succ, List.getElem?_cons_zero, Option.getD_some, List.setIfInBounds_toArray, List.set_cons_zero, List.set_cons_succ]
      refine wpJ_take 5 (oi := { dst := some 7, op := Op.assign (Operand.tmp 35), type := 27, pos := "esca.go:54", after := #[{ on := 3, ground := Ground.data }, { on := 4, ground := Ground.chain }, { on := 0, ground := Ground.phase }, { on := 1, ground := Ground.phase }, { on := 2, ground := Ground.phase }, { on := 3, ground := Ground.phase }, { on := 4, ground := Ground.phase }], guard := none }) rfl (by kernel_rfl) (by kernel_rfl) (fun _ _ _ h => h) hR (y_assign (by rfl) rfl (by rfl)) (fun _ => ?_)
      try simp only [Act.put, Act.eval, Array.getD_eq_getD_getElem?, List.getElem?_toArray, List.getElem?_cons_succ, List.getElem?_cons_zero, Option.getD_some, List.setIfInBounds_toArray, List.set_cons_zero, List.set_cons_succ]
      refine wpJ_done _ (by kernel_rfl) ?_
      go_wp2_with fail
      go_roundw
      case rel => exact ⟨k + 1, (msign s' r).1, L ++ M, a3, c3, b4, d4, by omega, by go_num, by simp, Lib.hid (by rw [List.length_append]; exact St.drop (hS.out.forget (List.sublist_cons_self _ _)) (by intro f hf; simp only [List.mem_cons, List.not_mem_nil, or_false] at hf; (repeat' (rcases hf with hf | hf)); all_goals ((try subst hf); first | exact List.Mem.head _ | exact List.Mem.tail _ (List.Mem.head _) | exact List.Mem.tail _ (List.Mem.tail _ (List.Mem.head _)) | exact List.Mem.tail _ (List.Mem.tail _ (List.Mem.tail _ (List.Mem.head _))) | exact List.Mem.tail _ (List.Mem.tail _ (List.Mem.tail _ (List.Mem.tail _ (List.Mem.head _)))) | exact List.Mem.tail _ (List.Mem.tail _ (List.Mem.tail _ (List.Mem.tail _ (List.Mem.tail _ (List.Mem.head _)))))))), Lib.hid (by rw [List.length_append]; exact hfr2.out), by simp; omega, by rw [Hid, show acs (L ++ M) = acs L ++ acs M from by simp [acs], hacs.out]; exact hm2.out⟩
      case measure => simp [intOf]; omega
    · have hke : k = l.length := by omega
      subst hke
      have hfin : msigns l s0 [] = (s', acs L) := by rw [← hm.out, List.drop_length]; rfl
      replace hfin := Lib.hid hfin
      clear hm
      go_wp2_with (first
    | (refine wl_made (bs := []) hS.out ?_; intro wB hS9; replace hS := Lib.hid hS9; clear hS9)
    | (refine wl_made hS.out ?_; intro w9 hS9; replace hS := Lib.hid hS9; clear hS9)
    | (refine wl_loadAll (T := 33) hS.out (by rfl) rfl (by rfl) Try.underlying33 rfl Try.size33 (by repeat (first | exact At.here | apply At.there)) (by rfl) ?_)
    | (refine wl_storeAll (T := 33) hS.out (by rfl) rfl (by rfl) (by rfl) (by exact Try.size33) (by repeat (first | exact At.here | apply At.there)) (by rfl) (by rfl) ?_; intro w9 hS9; replace hS := Lib.hid hS9; clear hS9))
      refine bodyPost_ret (res_cell_tmp hS.out Try.results25 Try.underlying33 rfl Try.size33 (by rfl) (by repeat (first | exact At.here | apply At.there)) (by rfl) (by rfl)) rfl ?_
      rw [hfin.out]
      exact ⟨⟨a', c', b2, d2, L, rfl, (hS.out.get (intsF (.slice a' s'.par.length c') s'.par) (by simp)), (hS.out.get (actsF (.slice b2 L.length d2) L) (by simp)), rfl⟩, hS.out.isNew⟩
end Go.Proofs.Ytbcpbndhkainnaa
