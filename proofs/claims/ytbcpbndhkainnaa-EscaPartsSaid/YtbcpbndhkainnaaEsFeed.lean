/- Bytes. -/
import Derived.Test.YtbcpbndhkainnaaEsStep
import Derived.Test.YtbcpbndhkainnaaRd
import Derived.Outline
namespace Go.Proofs.Ytbcpbndhkainnaa
open Go.RowKit
set_option linter.unusedSimpArgs false
set_option linter.unusedVariables false
theorem Rd.at {k : IntKind} {w : World} {g off : Nat} {zs : List Int} (h : Rd k w (some ⟨g, off, none⟩) zs) (i : Nat) (hi : i < zs.length) : w.cell? ⟨g, off + i, none⟩ = some (.int k zs[i]) := by
  obtain ⟨g', off', e, _, hc⟩ := h i hi
  injection e with e
  injection e with e1 e2
  subst e1; subst e2
  exact hc
set_option maxHeartbeats 4000000 in
theorem feed_ (w : World) (s : Es) (zs : List Int) (a ba : Option Addr) (c bc : Nat) (hp : Ints w (.slice a s.par.length c) s.par) (hrd : Rd .u8 w ba zs) (hz : ∀ z ∈ zs, 0 ≤ z ∧ z ≤ 255) (hlen : zs.length ≤ 100000) (hw : Wf s) :
    Calls Try.prog 11 #[esV s (.slice a s.par.length c), .slice ba zs.length bc] w fun e w' => REA w' e (mfeed zs s []) ∧ New w w' := by
  have hl := hw.2.1
  have hl2 : s.par.length ≤ 1000 := by omega
  replace hw := Lib.hid hw
  replace hrd := Lib.hid hrd
  replace hz := Lib.hid hz
  have hS : St (fun _ => False) w w [] [intsF (.slice a s.par.length c) s.par] := (St.init w).own hp (by simp)
  replace hS := Lib.hid hS
  clear hp
  go_enter Try.func11, Try.ntmps11
  go_wp2_with (first
      | (refine wl_made (bs := []) hS.out ?_; intro wB hS9; replace hS := Lib.hid hS9; clear hS9)
      | (refine wl_made hS.out ?_; intro w9 hS9; replace hS := Lib.hid hS9; clear hS9)
      | (refine wl_load1 (T := 3) hS.out (by rfl) rfl (by rfl) Try.underlying3 rfl (by repeat (first | exact At.here | apply At.there)) (by rfl) ?_)
      | (refine wl_load1 (T := 22) hS.out (by rfl) rfl (by rfl) Try.underlying22 rfl (by repeat (first | exact At.here | apply At.there)) (by rfl) ?_)
      | (refine wl_loadAll (T := 33) hS.out (by rfl) rfl (by rfl) Try.underlying33 rfl Try.size33 (by repeat (first | exact At.here | apply At.there)) (by rfl) ?_)
      | (refine wl_storeAll (T := 33) hS.out (by rfl) rfl (by rfl) (by rfl) (by exact Try.size33) (by repeat (first | exact At.here | apply At.there)) (by rfl) (by rfl) ?_; intro w9 hS9; replace hS := Lib.hid hS9; clear hS9)
      | (refine wl_store1 (v := .slice _ _ _) (T := 22) hS.out (by rfl) rfl (by rfl) (by rfl) Try.size22 (by repeat (first | exact At.here | apply At.there)) (by rfl) (by rfl) (by rfl) ?_; intro w9 hS9; simp only [List.set_cons_zero, List.set_cons_succ] at hS9; replace hS := Lib.hid hS9; clear hS9)
      | (go_at_call 17; refine (clone_ _ s.par a c (hS.out.get (intsF (.slice a s.par.length c) s.par) (by simp)) hl2).mono ?_; rintro e w9 ⟨⟨a', c', rfl, ho⟩, x⟩; replace hS := Lib.hid ((hS.out.call x).own ho.own (by simp)); clear x ho))
  go_loopw [6, 17] (fun v i wr => ∃ (k : Nat) (s' : Es) (L : List (Ac × Value)) (a' : Option Addr) (c' : Nat) (b2 : Option Addr) (d2 : Nat), k ≤ zs.length ∧ i = .int .i64 k ∧ v = .slice b2 L.length d2 ∧ Hid (St (fun _ => False) w wr [(wB.heap.size, 33, [.int .i64 0, .int .i64 0, .int .i64 0, .int .i64 0, .slice none 0 0, .int .i64 0, .bool false, .bool false]), (w.heap.size, 33, [.int .i64 s'.m, .int .i64 s'.nd, .int .i64 s'.mn, .int .i64 s'.gt, .slice a' s'.par.length c', .int .i64 s'.nu, .bool s'.pv, .bool s'.sk])] [intsF (.slice a' s'.par.length c') s'.par, actsF (.slice b2 L.length d2) L]) ∧ Hid (Fresh w.heap.size (.slice b2 L.length d2)) ∧ L.length ≤ 2 * k ∧ Hid (mfeed (zs.drop k) s' (acs L) = mfeed zs s []) ∧ Hid (Wf s')) (fun _ i _ => zs.length - (intOf i).toNat)
  case atStart => exact ⟨0, s, [], a', c', none, 0, Nat.zero_le _, rfl, rfl, Lib.hid (St.drop (hS.out.acts (Acts.nil _) (by simp)) (by intro f hf; simp only [List.mem_cons, List.not_mem_nil, or_false] at hf; (repeat' (rcases hf with hf | hf)); all_goals ((try subst hf); first | exact List.Mem.head _ | exact List.Mem.tail _ (List.Mem.head _) | exact List.Mem.tail _ (List.Mem.tail _ (List.Mem.head _)) | exact List.Mem.tail _ (List.Mem.tail _ (List.Mem.tail _ (List.Mem.head _))) | exact List.Mem.tail _ (List.Mem.tail _ (List.Mem.tail _ (List.Mem.tail _ (List.Mem.head _)))) | exact List.Mem.tail _ (List.Mem.tail _ (List.Mem.tail _ (List.Mem.tail _ (List.Mem.tail _ (List.Mem.head _)))))))), Fresh.nil _, Nat.zero_le _, Lib.hid rfl, hw⟩
  case round =>
    obtain ⟨k, s', L, a', c', b2, d2, hk, rfl, rfl, hS, hfr, hLk, hm, hwf⟩ := hrel
    by_cases hlt : k < zs.length
    · obtain ⟨g, off, hg0, hgl, hc⟩ := (hrd.out.new hS.out.isNew) k hlt
      subst hg0
      obtain ⟨q1, q2⟩ := hz.out zs[k] (List.getElem_mem hlt)
      have hdr : zs.drop k = zs[k] :: zs.drop (k + 1) := List.drop_eq_getElem_cons hlt
      generalize zs[k] = r at hc q1 q2 hdr
      have hm2 : mfeed (zs.drop (k + 1)) (mstep s' r).1 (acs L ++ (mstep s' r).2) = mfeed zs s [] := by
        have : mfeed (r :: zs.drop (k + 1)) s' (acs L) = mfeed zs s [] := by rw [← hdr]; exact hm.out
        exact this
      replace hm2 := Lib.hid hm2
      have hwf2 := Lib.hid (wf_step hwf.out r q1 q2)
      clear hdr hm hgl
      go_wp2_with (first
    | (refine wl_made (bs := []) hS.out ?_; intro wB hS9; replace hS := Lib.hid hS9; clear hS9)
    | (refine wl_made hS.out ?_; intro w9 hS9; replace hS := Lib.hid hS9; clear hS9)
    | (refine wl_load1 (T := 3) hS.out (by rfl) rfl (by rfl) Try.underlying3 rfl (by repeat (first | exact At.here | apply At.there)) (by rfl) ?_)
    | (refine wl_load1 (T := 22) hS.out (by rfl) rfl (by rfl) Try.underlying22 rfl (by repeat (first | exact At.here | apply At.there)) (by rfl) ?_)
    | (refine wl_loadAll (T := 33) hS.out (by rfl) rfl (by rfl) Try.underlying33 rfl Try.size33 (by repeat (first | exact At.here | apply At.there)) (by rfl) ?_)
    | (refine wl_storeAll (T := 33) hS.out (by rfl) rfl (by rfl) (by rfl) (by exact Try.size33) (by repeat (first | exact At.here | apply At.there)) (by rfl) (by rfl) ?_; intro w9 hS9; replace hS := Lib.hid hS9; clear hS9)
    | (go_at_call 18; refine (step_ _ s' r a' c' (hS.out.get (intsF (.slice a' s'.par.length c') s'.par) (by simp)) q1 q2 hwf.out).mono ?_; rintro e w9 ⟨⟨a3, c3, b3, d3, M, rfl, hI, hM, hacs⟩, x⟩; replace hS := Lib.hid (((hS.out.call x).own hI (by simp)).acts hM (by simp)); clear x hI hM; replace hacs := Lib.hid hacs))
      refine region_St1 hS.out 0 (fun _ => true) (by kernel_rfl) (by rfl) ?_
      intro w9 hR hS9; replace hS := Lib.hid hS9; clear hS9
      refine wpJ_take 0 (oi := { dst := some 27, op := Op.load 33 (Operand.tmp 9), type := 33, pos := "esca.go:195", after := #[], guard := none }) rfl (by kernel_rfl) (by kernel_rfl) (fun _ _ _ h => h) hR (y_loadAll (T := 33) (by rfl) rfl (by rfl) Try.underlying33 rfl Try.size33 (by repeat (first | exact At.here | apply At.there)) (by rfl)) (fun _ => ?_)
      try simp only [Act.put, Act.eval, Array.getD_eq_getD_getElem?, List.getElem?_toArray, List.getElem?_cons_succ, List.getElem?_cons_zero, Option.getD_some, List.setIfInBounds_toArray, List.set_cons_zero, List.set_cons_succ]
      refine wpJ_take 1 (oi := { dst := some 28, op := Op.move (Operand.tmp 6), type := 27, pos := "esca.go:195", after := #[], guard := none }) rfl (by kernel_rfl) (by kernel_rfl) (fun _ _ _ h => h) hR (y_move (by rfl) rfl (by rfl)) (fun _ => ?_)
      try simp only [Act.put, Act.eval, Array.getD_eq_getD_getElem?, List.getElem?_toArray, List.getElem?_cons_succ, List.getElem?_cons_zero, Option.getD_some, List.setIfInBounds_toArray, List.set_cons_zero, List.set_cons_succ]
      refine wpJ_take 2 (oi := { dst := some 29, op := Op.move (Operand.tmp 10), type := 27, pos := "esca.go:195", after := #[], guard := none }) rfl (by kernel_rfl) (by kernel_rfl) (fun _ _ _ h => h) hR (y_move (by rfl) rfl (by rfl)) (fun _ => ?_)
      try simp only [Act.put, Act.eval, Array.getD_eq_getD_getElem?, List.getElem?_toArray, List.getElem?_cons_succ, List.getElem?_cons_zero, Option.getD_some, List.setIfInBounds_toArray, List.set_cons_zero, List.set_cons_succ]
      refine wpJ_one 3 (oi := { dst := some 30, op := Op.call { callee := Callee.builtin Builtin.append, args := #[Operand.tmp 28, Operand.tmp 29], argTypes := #[27, 27] }, type := 27, pos := "esca.go:195", after := #[{ on := 1, ground := Ground.data }, { on := 2, ground := Ground.data }], guard := none }) rfl (by kernel_rfl) ?_
      intro K hK
      refine sw (by rfl) ?_
      have hM1 : M.length ≤ 2 := by have := congrArg List.length hacs.out; have := hwf2.out.2; simp [acs] at *; omega
      refine st_append hS.out rfl Try.underlying27 Try.info24 rfl (by decide) (v := .slice b2 L.length d2) (by rfl) (hS.out.get (actsF (.slice b2 L.length d2) L) (by simp)).own (xv := .slice b3 M.length d3) (by rfl) (Src.own Try.underlying27 (hS.out.get (actsF (.slice b3 M.length d3) M) (by simp)).own (Acts.one' (hS.out.get (actsF (.slice b3 M.length d3) M) (by simp)).par)) (by unfold maxLen; omega) (by omega) ?_
      intro v9 w9 hown Xg hat
      obtain ⟨b4, d4, rfl⟩ := own_form hown
      have hfr2 := Lib.hid (hfr.out.app hS.out.ext.size hat)
      replace hS := Lib.hid (hS.out.app (v1 := .slice b2 L.length d2) (v2 := .slice b3 M.length d3) (ks' := [intsF (.slice a3 (mstep s' r).1.par.length c3) (mstep s' r).1.par]) (by simp) (by simp) hfr.out hown Xg (by intro f hf; simp at hf; rcases hf with rfl; exact ⟨by simp, _, _, _, _, _, by decide, rfl⟩) (by simp))
      clear hown Xg hat
      refine hK _ _ (fun _ => (by repeat (first | exact rows_nil _ | refine rows_here hS.out (by repeat (first | exact At.here | apply At.there)) ?_))) ?_
      clear hK K
      replace hR := rows_of hR w9 (by repeat (first | exact rows_nil _ | refine rows_here hS.out (by repeat (first | exact At.here | apply At.there)) ?_))
      try simp only [Act.put, Act.eval, Array.getD_eq_getD_getElem?, List.getElem?_toArray, List.getElem?_cons_succ, List.getElem?_cons_zero, Option.getD_some, List.setIfInBounds_toArray, List.set_cons_zero, List.set_cons_succ]
      refine wpJ_one 4 (oi := { dst := none, op := Op.store 33 (Operand.tmp 2) (Operand.tmp 27), type := 0, pos := "esca.go:195", after := #[{ on := 0, ground := Ground.data }, { on := 3, ground := Ground.chain }, { on := 0, ground := Ground.phase }, { on := 1, ground := Ground.textOnly Departure.lateStores }, { on := 2, ground := Ground.textOnly Departure.lateStores }, { on := 3, ground := Ground.textOnly Departure.lateStoresUnsure }], guard := none }) rfl (by kernel_rfl) ?_
      intro K hK
      refine sw (by rfl) ?_
      refine st_storeAll (T := 33) hS.out rfl (by rfl) (by rfl) (by exact Try.size33) (by repeat (first | exact At.here | apply At.there)) (by rfl) (by rfl) ?_; intro w9 hS9; replace hS := Lib.hid hS9; clear hS9
      refine hK _ _ (fun _ => (by repeat (first | exact rows_nil _ | refine rows_here hS.out (by repeat (first | exact At.here | apply At.there)) ?_))) ?_
      clear hK K
      replace hR := rows_of hR w9 (by repeat (first | exact rows_nil _ | refine rows_here hS.out (by repeat (first | exact At.here | apply At.there)) ?_))
      try simp only [Act.put, Act.eval, Array.getD_eq_getD_getElem?, List.getElem?_toArray, List.getElem?_cons_succ, List.getElem?_cons_zero, Option.getD_some, List.setIfInBounds_toArray, List.set_cons_zero, List.set_cons_succ]
      refine wpJ_take 5 (oi := { dst := some 6, op := Op.assign (Operand.tmp 30), type := 27, pos := "esca.go:195", after := #[{ on := 3, ground := Ground.data }, { on := 4, ground := Ground.chain }, { on := 0, ground := Ground.phase }, { on := 1, ground := Ground.phase }, { on := 2, ground := Ground.phase }, { on := 3, ground := Ground.phase }, { on := 4, ground := Ground.phase }], guard := none }) rfl (by kernel_rfl) (by kernel_rfl) (fun _ _ _ h => h) hR (y_assign (by rfl) rfl (by rfl)) (fun _ => ?_)
      try simp only [Act.put, Act.eval, Array.getD_eq_getD_getElem?, List.getElem?_toArray, List.getElem?_cons_succ, List.getElem?_cons_zero, Option.getD_some, List.setIfInBounds_toArray, List.set_cons_zero, List.set_cons_succ]
      refine wpJ_done _ (by kernel_rfl) ?_
      go_wp2_with fail
      go_roundw
      case rel => exact ⟨k + 1, (mstep s' r).1, L ++ M, a3, c3, b4, d4, by omega, by go_num, by simp, Lib.hid (by rw [List.length_append]; exact St.drop (hS.out.forget (List.sublist_cons_self _ _)) (by intro f hf; simp only [List.mem_cons, List.not_mem_nil, or_false] at hf; (repeat' (rcases hf with hf | hf)); all_goals ((try subst hf); first | exact List.Mem.head _ | exact List.Mem.tail _ (List.Mem.head _) | exact List.Mem.tail _ (List.Mem.tail _ (List.Mem.head _)) | exact List.Mem.tail _ (List.Mem.tail _ (List.Mem.tail _ (List.Mem.head _))) | exact List.Mem.tail _ (List.Mem.tail _ (List.Mem.tail _ (List.Mem.tail _ (List.Mem.head _)))) | exact List.Mem.tail _ (List.Mem.tail _ (List.Mem.tail _ (List.Mem.tail _ (List.Mem.tail _ (List.Mem.head _)))))))), Lib.hid (by rw [List.length_append]; exact hfr2.out), by simp; omega, by rw [Hid, show acs (L ++ M) = acs L ++ acs M from by simp [acs], hacs.out]; exact hm2.out, Lib.hid hwf2.out.1⟩
      case measure => simp [intOf]; omega
    · have hke : k = zs.length := by omega
      subst hke
      have hfin : mfeed zs s [] = (s', acs L) := by rw [← hm.out, List.drop_length]; rfl
      replace hfin := Lib.hid hfin
      clear hm
      go_wp2_with (first
    | (refine wl_made (bs := []) hS.out ?_; intro wB hS9; replace hS := Lib.hid hS9; clear hS9)
    | (refine wl_made hS.out ?_; intro w9 hS9; replace hS := Lib.hid hS9; clear hS9)
    | (refine wl_loadAll (T := 33) hS.out (by rfl) rfl (by rfl) Try.underlying33 rfl Try.size33 (by repeat (first | exact At.here | apply At.there)) (by rfl) ?_)
    | (refine wl_storeAll (T := 33) hS.out (by rfl) rfl (by rfl) (by rfl) (by exact Try.size33) (by repeat (first | exact At.here | apply At.there)) (by rfl) (by rfl) ?_; intro w9 hS9; replace hS := Lib.hid hS9; clear hS9))
      refine bodyPost_ret (res_cell_tmp hS.out Try.results11 Try.underlying33 rfl Try.size33 (by rfl) (by repeat (first | exact At.here | apply At.there)) (by rfl) (by rfl)) rfl ?_
      rw [hfin.out]
      exact ⟨⟨a', c', b2, d2, L, rfl, (hS.out.get (intsF (.slice a' s'.par.length c') s'.par) (by simp)), (hS.out.get (actsF (.slice b2 L.length d2) L) (by simp)), rfl⟩, hS.out.isNew⟩
end Go.Proofs.Ytbcpbndhkainnaa
