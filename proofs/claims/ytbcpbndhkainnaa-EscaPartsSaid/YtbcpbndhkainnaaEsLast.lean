/- The last byte of a long escape. -/
import Derived.Test.YtbcpbndhkainnaaEsSt
import Derived.Test.YtbcpbndhkainnaaRg
import Derived.Outline
namespace Go.Proofs.Ytbcpbndhkainnaa
open Go.RowKit
set_option linter.unusedSimpArgs false
set_option linter.unusedVariables false
set_option maxHeartbeats 2000000 in
theorem last_n (w : World) (m nd mn gt : Int) (par : List Int) (nu b : Int) (pv sk : Bool) (a : Option Addr) (c : Nat) (hp : Ints w (.slice a par.length c) par) (hb : 0 ≤ b) (hb2 : b ≤ 255) (hl : par.length ≤ 16) (hn : nu ≠ -1) :
    Calls Try.prog 31 #[esV (Es.mk m nd mn gt par nu pv sk) (.slice a par.length c), .int .u8 b] w fun e w' => REA w' e (mlast (Es.mk m nd mn gt par nu pv sk) b) ∧ New w w' := by
  have hS : St (fun _ => False) w w [] [intsF (.slice a par.length c) par] := (St.init w).own hp (by simp)
  replace hS := Lib.hid hS
  clear hp
  have hl2 : par.length ≤ 1000 := by omega
  have g1 : (nu == -1) = false := beq_eq_false_iff_ne.2 hn
  have g2 : (nu != -1) = true := bne_iff_ne.2 hn
  have g3 : decide (nu = -1) = false := decide_eq_false hn
  have e4 : mlast (Es.mk m nd mn gt par nu pv true) b = (Es.go (Es.mk m nd mn gt par nu pv true) 0, []) := by simp [mlast]
  have e0 : mlast (Es.mk m nd mn gt par nu false false) b = (Es.go (Es.mk m nd mn gt par nu false false) 0, [⟨4, b, (mtold (Es.mk m nd mn gt par nu false false))⟩]) := by simp [mlast, hn]
  have e1 : mlast (Es.mk m nd mn gt par nu true false) b = (Es.go (Es.mk m nd mn gt par nu true false) 0, [⟨5, b, (mtold (Es.mk m nd mn gt par nu true false))⟩]) := by simp [mlast, hn]
  replace e0 := Lib.hid e0
  replace e1 := Lib.hid e1
  replace e4 := Lib.hid e4
  clear hn
  go_enter Try.func31, Try.ntmps31
  go_wp2_with (first
    | (refine wl_made hS.out ?_; intro w9 hS9; replace hS := Lib.hid hS9; clear hS9)
    | (refine wl_load1 (T := 3) hS.out (by rfl) rfl (by rfl) Try.underlying3 rfl (by repeat (first | exact At.here | apply At.there)) (by rfl) ?_)
    | (refine wl_load1 (T := 4) hS.out (by rfl) rfl (by rfl) Try.underlying4 rfl (by repeat (first | exact At.here | apply At.there)) (by rfl) ?_)
    | (refine wl_load1 (T := 22) hS.out (by rfl) rfl (by rfl) Try.underlying22 rfl (by repeat (first | exact At.here | apply At.there)) (by rfl) ?_)
    | (refine wl_loadAll (T := 33) hS.out (by rfl) rfl (by rfl) Try.underlying33 rfl Try.size33 (by repeat (first | exact At.here | apply At.there)) (by rfl) ?_)
    | (refine wl_storeAll (T := 24) hS.out (by rfl) rfl (by rfl) (by rfl) (by exact Try.size24) (by repeat (first | exact At.here | apply At.there)) (by rfl) (by rfl) ?_; intro w9 hS9; replace hS := Lib.hid hS9; clear hS9)
    | (refine wl_storeAll (T := 33) hS.out (by rfl) rfl (by rfl) (by rfl) (by exact Try.size33) (by repeat (first | exact At.here | apply At.there)) (by rfl) (by rfl) ?_; intro w9 hS9; replace hS := Lib.hid hS9; clear hS9)
    | (refine wl_store1 (v := .slice _ _ _) (T := 22) hS.out (by rfl) rfl (by rfl) (by rfl) Try.size22 (by repeat (first | exact At.here | apply At.there)) (by rfl) (by rfl) (by rfl) ?_; intro w9 hS9; simp only [List.set_cons_zero, List.set_cons_succ] at hS9; replace hS := Lib.hid hS9; clear hS9)
    | (refine wl_store1 (v := .int _ _) (T := 3) hS.out (by rfl) rfl (by rfl) (by rfl) Try.size3 (by repeat (first | exact At.here | apply At.there)) (by rfl) (by rfl) (by rfl) ?_; intro w9 hS9; simp only [List.set_cons_zero, List.set_cons_succ] at hS9; replace hS := Lib.hid hS9; clear hS9)
    | (go_at_call 17; refine (clone_ _ par a c (hS.out.get (intsF (.slice a par.length c) par) (by simp)) hl2).mono ?_; rintro e w9 ⟨⟨a', c', rfl, ho⟩, x⟩; replace hS := Lib.hid ((hS.out.call x).own ho.own (by simp)); clear x ho)
    | (go_at_call 30; refine (told_ _ (Es.mk m nd mn gt par nu pv sk) a c (hS.out.get (intsF (.slice a par.length c) par) (by simp)) hl).mono ?_; rintro e w9 ⟨⟨a2, c2, rfl, ho⟩, x⟩; replace hS := Lib.hid ((hS.out.call x).own ho.own (by simp)); clear x ho)
    | (go_at_call 27; refine (to_ _ (Es.mk m nd mn gt par nu _ _) 0 a _ c).mono ?_; rintro e w9 ⟨rfl, x⟩; replace hS := Lib.hid (hS.out.call x); clear x))
  · subst_vars
    refine bodyPost_ret (res_cell_tmp hS.out Try.results31 Try.underlying33 rfl Try.size33 (by rfl) (by repeat (first | exact At.here | apply At.there)) (by rfl) (by rfl)) rfl ?_
    exact ⟨(by rw [e4.out]; exact REA.go _ _ 0), hS.out.isNew⟩
  · subst_vars
    refine region_St2 hS.out 2 0 (fun _ => true) (by kernel_rfl) (by rfl) (by rfl) ?_
    intro w9 hR hS9; replace hS := Lib.hid hS9; clear hS9
    refine wpJ_take 0 (oi := { dst := some 32, op := Op.load 33 (Operand.tmp 2), type := 33, pos := "esca.go:113", after := #[], guard := none }) rfl (by kernel_rfl) (by kernel_rfl) (fun _ _ _ h => h) hR (y_loadAll (T := 33) (by rfl) rfl (by rfl) Try.underlying33 rfl Try.size33 (by repeat (first | exact At.here | apply At.there)) (by rfl)) (fun _ => ?_)
    try simp only [Act.put, Act.eval, Array.getD_eq_getD_getElem?, List.getElem?_toArray, List.getElem?_cons_succ, List.getElem?_cons_zero, Option.getD_some, List.setIfInBounds_toArray, List.set_cons_zero, List.set_cons_succ]
    refine wpJ_take 2 (oi := { dst := some 34, op := Op.load 24 (Operand.tmp 6), type := 24, pos := "esca.go:113", after := #[{ on := 4, ground := Ground.gcOnly Departure.lateStores }], guard := none }) rfl (by kernel_rfl) (by kernel_rfl) (fun _ _ _ h => h) hR (y_loadAll (T := 24) (by rfl) rfl (by rfl) Try.underlying24 rfl Try.size24 (by repeat (first | exact At.here | apply At.there)) (by rfl)) (fun _ => ?_)
    try simp only [Act.put, Act.eval, Array.getD_eq_getD_getElem?, List.getElem?_toArray, List.getElem?_cons_succ, List.getElem?_cons_zero, Option.getD_some, List.setIfInBounds_toArray, List.set_cons_zero, List.set_cons_succ]
    refine wpJ_two 1 3 (oi := { dst := some 33, op := Op.call { callee := Callee.value (Operand.func 27), args := #[Operand.tmp 32, Operand.const (Value.int IntKind.i64 0)], argTypes := #[33, 3] }, type := 33, pos := "esca.go:113", after := #[{ on := 0, ground := Ground.data }], guard := none }) (ok := { dst := some 35, op := Op.buildSlice 27 1 #[(0, Operand.tmp 34)], type := 27, pos := "esca.go:113", after := #[{ on := 2, ground := Ground.data }, { on := 4, ground := Ground.gcOnly Departure.lateStores }], guard := none }) rfl rfl (by kernel_rfl) ?_ ?_
    · intro K hK
      refine sw (by rfl) ?_
      refine st_fn Try.func27 (by kernel_rfl) (by kernel_rfl) rfl (by rfl) _ (to_ _ (Es.mk m nd mn gt par nu _ _) 0 a _ c) ?_
      rintro e w9 ⟨rfl, x⟩
      refine ⟨_, rfl, ?_⟩
      replace hS := Lib.hid (hS.out.call x); clear x
      refine hK _ _ (fun _ => (by repeat (first | exact rows_nil _ | refine rows_here hS.out (by repeat (first | exact At.here | apply At.there)) ?_))) ?_
      clear hK K
      replace hR := rows_of hR w9 (by repeat (first | exact rows_nil _ | refine rows_here hS.out (by repeat (first | exact At.here | apply At.there)) ?_))
      try simp only [Act.put, Act.eval, Array.getD_eq_getD_getElem?, List.getElem?_toArray, List.getElem?_cons_succ, List.getElem?_cons_zero, Option.getD_some, List.setIfInBounds_toArray, List.set_cons_zero, List.set_cons_succ]
      refine wpJ_two 3 4 (oi := { dst := some 35, op := Op.buildSlice 27 1 #[(0, Operand.tmp 34)], type := 27, pos := "esca.go:113", after := #[{ on := 2, ground := Ground.data }, { on := 4, ground := Ground.gcOnly Departure.lateStores }], guard := none }) (ok := { dst := none, op := Op.store 33 (Operand.tmp 4) (Operand.tmp 33), type := 0, pos := "esca.go:113", after := #[{ on := 1, ground := Ground.data }, { on := 1, ground := Ground.chain }, { on := 0, ground := Ground.phase }, { on := 1, ground := Ground.phase }, { on := 2, ground := Ground.textOnly Departure.lateStores }, { on := 3, ground := Ground.textOnly Departure.lateStores }], guard := none }) rfl rfl (by kernel_rfl) ?_ ?_
      · intro K hK
        refine sw (by rfl) ?_
        refine st_made hS.out (by go_simp; (first | done | exact ⟨rfl, rfl⟩)) ?_
        intro w9 hS9; replace hS := Lib.hid hS9; clear hS9
        refine hK _ _ (fun _ => (by repeat (first | exact rows_nil _ | refine rows_here hS.out (by repeat (first | exact At.here | apply At.there)) ?_))) ?_
        clear hK K
        replace hR := rows_of hR w9 (by repeat (first | exact rows_nil _ | refine rows_here hS.out (by repeat (first | exact At.here | apply At.there)) ?_))
        try simp only [Act.put, Act.eval, Array.getD_eq_getD_getElem?, List.getElem?_toArray, List.getElem?_cons_succ, List.getElem?_cons_zero, Option.getD_some, List.setIfInBounds_toArray, List.set_cons_zero, List.set_cons_succ]
        refine wpJ_one 4 (oi := { dst := none, op := Op.store 33 (Operand.tmp 4) (Operand.tmp 33), type := 0, pos := "esca.go:113", after := #[{ on := 1, ground := Ground.data }, { on := 1, ground := Ground.chain }, { on := 0, ground := Ground.phase }, { on := 1, ground := Ground.phase }, { on := 2, ground := Ground.textOnly Departure.lateStores }, { on := 3, ground := Ground.textOnly Departure.lateStores }], guard := none }) rfl (by kernel_rfl) ?_
        intro K hK
        refine sw (by rfl) ?_
        refine st_storeAll (T := 33) hS.out rfl (by rfl) (by rfl) (by exact Try.size33) (by repeat (first | exact At.here | apply At.there)) (by rfl) (by rfl) ?_; intro w9 hS9; replace hS := Lib.hid hS9; clear hS9
        refine hK _ _ (fun _ => (by repeat (first | exact rows_nil _ | refine rows_here hS.out (by repeat (first | exact At.here | apply At.there)) ?_))) ?_
        clear hK K
        replace hR := rows_of hR w9 (by repeat (first | exact rows_nil _ | refine rows_here hS.out (by repeat (first | exact At.here | apply At.there)) ?_))
        try simp only [Act.put, Act.eval, Array.getD_eq_getD_getElem?, List.getElem?_toArray, List.getElem?_cons_succ, List.getElem?_cons_zero, Option.getD_some, List.setIfInBounds_toArray, List.set_cons_zero, List.set_cons_succ]
        refine wpJ_take 5 (oi := { dst := some 5, op := Op.assign (Operand.tmp 35), type := 27, pos := "esca.go:113", after := #[{ on := 3, ground := Ground.data }, { on := 4, ground := Ground.chain }, { on := 0, ground := Ground.phase }, { on := 1, ground := Ground.phase }, { on := 2, ground := Ground.phase }, { on := 3, ground := Ground.phase }, { on := 4, ground := Ground.phase }], guard := none }) rfl (by kernel_rfl) (by kernel_rfl) (fun _ _ _ h => h) hR (y_assign (by rfl) rfl (by rfl)) (fun _ => ?_)
        try simp only [Act.put, Act.eval, Array.getD_eq_getD_getElem?, List.getElem?_toArray, List.getElem?_cons_succ, List.getElem?_cons_zero, Option.getD_some, List.setIfInBounds_toArray, List.set_cons_zero, List.set_cons_succ]
        refine wpJ_done _ (by kernel_rfl) ?_
        go_wp2_with fail
        refine bodyPost_ret (res_cell_tmp hS.out Try.results31 Try.underlying33 rfl Try.size33 (by rfl) (by repeat (first | exact At.here | apply At.there)) (by rfl) (by rfl)) rfl ?_
        exact ⟨(by rw [e1.out]; exact ⟨none, 0, some ⟨_, 0, none⟩, 1, [(⟨5, b, (mtold (Es.mk m nd mn gt par nu true false))⟩, .slice a2 (mtold (Es.mk m nd mn gt par nu true false)).length c2)], rfl, Ints.nil _, Acts.row (hS.out.row (cs' := []) (bs' := _) (by repeat (first | exact At.here | apply At.there))) (hS.out.get (intsF (.slice a2 (mtold (Es.mk m nd mn gt par nu true false)).length c2) (mtold (Es.mk m nd mn gt par nu true false))) (by simp)), rfl⟩), hS.out.isNew⟩
      · intro K hK
        refine sw (by rfl) ?_
        refine st_storeAll (T := 33) hS.out rfl (by rfl) (by rfl) (by exact Try.size33) (by repeat (first | exact At.here | apply At.there)) (by rfl) (by rfl) ?_; intro w9 hS9; replace hS := Lib.hid hS9; clear hS9
        refine hK _ _ (fun _ => (by repeat (first | exact rows_nil _ | refine rows_here hS.out (by repeat (first | exact At.here | apply At.there)) ?_))) ?_
        clear hK K
        replace hR := rows_of hR w9 (by repeat (first | exact rows_nil _ | refine rows_here hS.out (by repeat (first | exact At.here | apply At.there)) ?_))
        try simp only [Act.put, Act.eval, Array.getD_eq_getD_getElem?, List.getElem?_toArray, List.getElem?_cons_succ, List.getElem?_cons_zero, Option.getD_some, List.setIfInBounds_toArray, List.set_cons_zero, List.set_cons_succ]
        refine wpJ_one 3 (oi := { dst := some 35, op := Op.buildSlice 27 1 #[(0, Operand.tmp 34)], type := 27, pos := "esca.go:113", after := #[{ on := 2, ground := Ground.data }, { on := 4, ground := Ground.gcOnly Departure.lateStores }], guard := none }) rfl (by kernel_rfl) ?_
        intro K hK
        refine sw (by rfl) ?_
        refine st_made hS.out (by go_simp; (first | done | exact ⟨rfl, rfl⟩)) ?_
        intro w9 hS9; replace hS := Lib.hid hS9; clear hS9
        refine hK _ _ (fun _ => (by repeat (first | exact rows_nil _ | refine rows_here hS.out (by repeat (first | exact At.here | apply At.there)) ?_))) ?_
        clear hK K
        replace hR := rows_of hR w9 (by repeat (first | exact rows_nil _ | refine rows_here hS.out (by repeat (first | exact At.here | apply At.there)) ?_))
        try simp only [Act.put, Act.eval, Array.getD_eq_getD_getElem?, List.getElem?_toArray, List.getElem?_cons_succ, List.getElem?_cons_zero, Option.getD_some, List.setIfInBounds_toArray, List.set_cons_zero, List.set_cons_succ]
        refine wpJ_take 5 (oi := { dst := some 5, op := Op.assign (Operand.tmp 35), type := 27, pos := "esca.go:113", after := #[{ on := 3, ground := Ground.data }, { on := 4, ground := Ground.chain }, { on := 0, ground := Ground.phase }, { on := 1, ground := Ground.phase }, { on := 2, ground := Ground.phase }, { on := 3, ground := Ground.phase }, { on := 4, ground := Ground.phase }], guard := none }) rfl (by kernel_rfl) (by kernel_rfl) (fun _ _ _ h => h) hR (y_assign (by rfl) rfl (by rfl)) (fun _ => ?_)
        try simp only [Act.put, Act.eval, Array.getD_eq_getD_getElem?, List.getElem?_toArray, List.getElem?_cons_succ, List.getElem?_cons_zero, Option.getD_some, List.setIfInBounds_toArray, List.set_cons_zero, List.set_cons_succ]
        refine wpJ_done _ (by kernel_rfl) ?_
        go_wp2_with fail
        refine bodyPost_ret (res_cell_tmp hS.out Try.results31 Try.underlying33 rfl Try.size33 (by rfl) (by repeat (first | exact At.here | apply At.there)) (by rfl) (by rfl)) rfl ?_
        exact ⟨(by rw [e1.out]; exact ⟨none, 0, some ⟨_, 0, none⟩, 1, [(⟨5, b, (mtold (Es.mk m nd mn gt par nu true false))⟩, .slice a2 (mtold (Es.mk m nd mn gt par nu true false)).length c2)], rfl, Ints.nil _, Acts.row (hS.out.row (cs' := []) (bs' := _) (by repeat (first | exact At.here | apply At.there))) (hS.out.get (intsF (.slice a2 (mtold (Es.mk m nd mn gt par nu true false)).length c2) (mtold (Es.mk m nd mn gt par nu true false))) (by simp)), rfl⟩), hS.out.isNew⟩
    · intro K hK
      refine sw (by rfl) ?_
      refine st_made hS.out (by go_simp; (first | done | exact ⟨rfl, rfl⟩)) ?_
      intro w9 hS9; replace hS := Lib.hid hS9; clear hS9
      refine hK _ _ (fun _ => (by repeat (first | exact rows_nil _ | refine rows_here hS.out (by repeat (first | exact At.here | apply At.there)) ?_))) ?_
      clear hK K
      replace hR := rows_of hR w9 (by repeat (first | exact rows_nil _ | refine rows_here hS.out (by repeat (first | exact At.here | apply At.there)) ?_))
      try simp only [Act.put, Act.eval, Array.getD_eq_getD_getElem?, List.getElem?_toArray, List.getElem?_cons_succ, List.getElem?_cons_zero, Option.getD_some, List.setIfInBounds_toArray, List.set_cons_zero, List.set_cons_succ]
      refine wpJ_one 1 (oi := { dst := some 33, op := Op.call { callee := Callee.value (Operand.func 27), args := #[Operand.tmp 32, Operand.const (Value.int IntKind.i64 0)], argTypes := #[33, 3] }, type := 33, pos := "esca.go:113", after := #[{ on := 0, ground := Ground.data }], guard := none }) rfl (by kernel_rfl) ?_
      intro K hK
      refine sw (by rfl) ?_
      refine st_fn Try.func27 (by kernel_rfl) (by kernel_rfl) rfl (by rfl) _ (to_ _ (Es.mk m nd mn gt par nu _ _) 0 a _ c) ?_
      rintro e w9 ⟨rfl, x⟩
      refine ⟨_, rfl, ?_⟩
      replace hS := Lib.hid (hS.out.call x); clear x
      refine hK _ _ (fun _ => (by repeat (first | exact rows_nil _ | refine rows_here hS.out (by repeat (first | exact At.here | apply At.there)) ?_))) ?_
      clear hK K
      replace hR := rows_of hR w9 (by repeat (first | exact rows_nil _ | refine rows_here hS.out (by repeat (first | exact At.here | apply At.there)) ?_))
      try simp only [Act.put, Act.eval, Array.getD_eq_getD_getElem?, List.getElem?_toArray, List.getElem?_cons_succ, List.getElem?_cons_zero, Option.getD_some, List.setIfInBounds_toArray, List.set_cons_zero, List.set_cons_succ]
      refine wpJ_one 4 (oi := { dst := none, op := Op.store 33 (Operand.tmp 4) (Operand.tmp 33), type := 0, pos := "esca.go:113", after := #[{ on := 1, ground := Ground.data }, { on := 1, ground := Ground.chain }, { on := 0, ground := Ground.phase }, { on := 1, ground := Ground.phase }, { on := 2, ground := Ground.textOnly Departure.lateStores }, { on := 3, ground := Ground.textOnly Departure.lateStores }], guard := none }) rfl (by kernel_rfl) ?_
      intro K hK
      refine sw (by rfl) ?_
      refine st_storeAll (T := 33) hS.out rfl (by rfl) (by rfl) (by exact Try.size33) (by repeat (first | exact At.here | apply At.there)) (by rfl) (by rfl) ?_; intro w9 hS9; replace hS := Lib.hid hS9; clear hS9
      refine hK _ _ (fun _ => (by repeat (first | exact rows_nil _ | refine rows_here hS.out (by repeat (first | exact At.here | apply At.there)) ?_))) ?_
      clear hK K
      replace hR := rows_of hR w9 (by repeat (first | exact rows_nil _ | refine rows_here hS.out (by repeat (first | exact At.here | apply At.there)) ?_))
      try simp only [Act.put, Act.eval, Array.getD_eq_getD_getElem?, List.getElem?_toArray, List.getElem?_cons_succ, List.getElem?_cons_zero, Option.getD_some, List.setIfInBounds_toArray, List.set_cons_zero, List.set_cons_succ]
      refine wpJ_take 5 (oi := { dst := some 5, op := Op.assign (Operand.tmp 35), type := 27, pos := "esca.go:113", after := #[{ on := 3, ground := Ground.data }, { on := 4, ground := Ground.chain }, { on := 0, ground := Ground.phase }, { on := 1, ground := Ground.phase }, { on := 2, ground := Ground.phase }, { on := 3, ground := Ground.phase }, { on := 4, ground := Ground.phase }], guard := none }) rfl (by kernel_rfl) (by kernel_rfl) (fun _ _ _ h => h) hR (y_assign (by rfl) rfl (by rfl)) (fun _ => ?_)
      try simp only [Act.put, Act.eval, Array.getD_eq_getD_getElem?, List.getElem?_toArray, List.getElem?_cons_succ, List.getElem?_cons_zero, Option.getD_some, List.setIfInBounds_toArray, List.set_cons_zero, List.set_cons_succ]
      refine wpJ_done _ (by kernel_rfl) ?_
      go_wp2_with fail
      refine bodyPost_ret (res_cell_tmp hS.out Try.results31 Try.underlying33 rfl Try.size33 (by rfl) (by repeat (first | exact At.here | apply At.there)) (by rfl) (by rfl)) rfl ?_
      exact ⟨(by rw [e1.out]; exact ⟨none, 0, some ⟨_, 0, none⟩, 1, [(⟨5, b, (mtold (Es.mk m nd mn gt par nu true false))⟩, .slice a2 (mtold (Es.mk m nd mn gt par nu true false)).length c2)], rfl, Ints.nil _, Acts.row (hS.out.row (cs' := []) (bs' := _) (by repeat (first | exact At.here | apply At.there))) (hS.out.get (intsF (.slice a2 (mtold (Es.mk m nd mn gt par nu true false)).length c2) (mtold (Es.mk m nd mn gt par nu true false))) (by simp)), rfl⟩), hS.out.isNew⟩
  · subst_vars
    refine bodyPost_ret (res_cell_tmp hS.out Try.results31 Try.underlying33 rfl Try.size33 (by rfl) (by repeat (first | exact At.here | apply At.there)) (by rfl) (by rfl)) rfl ?_
    exact ⟨(by rw [e4.out]; exact REA.go _ _ 0), hS.out.isNew⟩
  · subst_vars
    refine region_St2 hS.out 2 0 (fun _ => true) (by kernel_rfl) (by rfl) (by rfl) ?_
    intro w9 hR hS9; replace hS := Lib.hid hS9; clear hS9
    refine wpJ_take 0 (oi := { dst := some 32, op := Op.load 33 (Operand.tmp 2), type := 33, pos := "esca.go:113", after := #[], guard := none }) rfl (by kernel_rfl) (by kernel_rfl) (fun _ _ _ h => h) hR (y_loadAll (T := 33) (by rfl) rfl (by rfl) Try.underlying33 rfl Try.size33 (by repeat (first | exact At.here | apply At.there)) (by rfl)) (fun _ => ?_)
    try simp only [Act.put, Act.eval, Array.getD_eq_getD_getElem?, List.getElem?_toArray, List.getElem?_cons_succ, List.getElem?_cons_zero, Option.getD_some, List.setIfInBounds_toArray, List.set_cons_zero, List.set_cons_succ]
    refine wpJ_take 2 (oi := { dst := some 34, op := Op.load 24 (Operand.tmp 6), type := 24, pos := "esca.go:113", after := #[{ on := 4, ground := Ground.gcOnly Departure.lateStores }], guard := none }) rfl (by kernel_rfl) (by kernel_rfl) (fun _ _ _ h => h) hR (y_loadAll (T := 24) (by rfl) rfl (by rfl) Try.underlying24 rfl Try.size24 (by repeat (first | exact At.here | apply At.there)) (by rfl)) (fun _ => ?_)
    try simp only [Act.put, Act.eval, Array.getD_eq_getD_getElem?, List.getElem?_toArray, List.getElem?_cons_succ, List.getElem?_cons_zero, Option.getD_some, List.setIfInBounds_toArray, List.set_cons_zero, List.set_cons_succ]
    refine wpJ_two 1 3 (oi := { dst := some 33, op := Op.call { callee := Callee.value (Operand.func 27), args := #[Operand.tmp 32, Operand.const (Value.int IntKind.i64 0)], argTypes := #[33, 3] }, type := 33, pos := "esca.go:113", after := #[{ on := 0, ground := Ground.data }], guard := none }) (ok := { dst := some 35, op := Op.buildSlice 27 1 #[(0, Operand.tmp 34)], type := 27, pos := "esca.go:113", after := #[{ on := 2, ground := Ground.data }, { on := 4, ground := Ground.gcOnly Departure.lateStores }], guard := none }) rfl rfl (by kernel_rfl) ?_ ?_
    · intro K hK
      refine sw (by rfl) ?_
      refine st_fn Try.func27 (by kernel_rfl) (by kernel_rfl) rfl (by rfl) _ (to_ _ (Es.mk m nd mn gt par nu _ _) 0 a _ c) ?_
      rintro e w9 ⟨rfl, x⟩
      refine ⟨_, rfl, ?_⟩
      replace hS := Lib.hid (hS.out.call x); clear x
      refine hK _ _ (fun _ => (by repeat (first | exact rows_nil _ | refine rows_here hS.out (by repeat (first | exact At.here | apply At.there)) ?_))) ?_
      clear hK K
      replace hR := rows_of hR w9 (by repeat (first | exact rows_nil _ | refine rows_here hS.out (by repeat (first | exact At.here | apply At.there)) ?_))
      try simp only [Act.put, Act.eval, Array.getD_eq_getD_getElem?, List.getElem?_toArray, List.getElem?_cons_succ, List.getElem?_cons_zero, Option.getD_some, List.setIfInBounds_toArray, List.set_cons_zero, List.set_cons_succ]
      refine wpJ_two 3 4 (oi := { dst := some 35, op := Op.buildSlice 27 1 #[(0, Operand.tmp 34)], type := 27, pos := "esca.go:113", after := #[{ on := 2, ground := Ground.data }, { on := 4, ground := Ground.gcOnly Departure.lateStores }], guard := none }) (ok := { dst := none, op := Op.store 33 (Operand.tmp 4) (Operand.tmp 33), type := 0, pos := "esca.go:113", after := #[{ on := 1, ground := Ground.data }, { on := 1, ground := Ground.chain }, { on := 0, ground := Ground.phase }, { on := 1, ground := Ground.phase }, { on := 2, ground := Ground.textOnly Departure.lateStores }, { on := 3, ground := Ground.textOnly Departure.lateStores }], guard := none }) rfl rfl (by kernel_rfl) ?_ ?_
      · intro K hK
        refine sw (by rfl) ?_
        refine st_made hS.out (by go_simp; (first | done | exact ⟨rfl, rfl⟩)) ?_
        intro w9 hS9; replace hS := Lib.hid hS9; clear hS9
        refine hK _ _ (fun _ => (by repeat (first | exact rows_nil _ | refine rows_here hS.out (by repeat (first | exact At.here | apply At.there)) ?_))) ?_
        clear hK K
        replace hR := rows_of hR w9 (by repeat (first | exact rows_nil _ | refine rows_here hS.out (by repeat (first | exact At.here | apply At.there)) ?_))
        try simp only [Act.put, Act.eval, Array.getD_eq_getD_getElem?, List.getElem?_toArray, List.getElem?_cons_succ, List.getElem?_cons_zero, Option.getD_some, List.setIfInBounds_toArray, List.set_cons_zero, List.set_cons_succ]
        refine wpJ_one 4 (oi := { dst := none, op := Op.store 33 (Operand.tmp 4) (Operand.tmp 33), type := 0, pos := "esca.go:113", after := #[{ on := 1, ground := Ground.data }, { on := 1, ground := Ground.chain }, { on := 0, ground := Ground.phase }, { on := 1, ground := Ground.phase }, { on := 2, ground := Ground.textOnly Departure.lateStores }, { on := 3, ground := Ground.textOnly Departure.lateStores }], guard := none }) rfl (by kernel_rfl) ?_
        intro K hK
        refine sw (by rfl) ?_
        refine st_storeAll (T := 33) hS.out rfl (by rfl) (by rfl) (by exact Try.size33) (by repeat (first | exact At.here | apply At.there)) (by rfl) (by rfl) ?_; intro w9 hS9; replace hS := Lib.hid hS9; clear hS9
        refine hK _ _ (fun _ => (by repeat (first | exact rows_nil _ | refine rows_here hS.out (by repeat (first | exact At.here | apply At.there)) ?_))) ?_
        clear hK K
        replace hR := rows_of hR w9 (by repeat (first | exact rows_nil _ | refine rows_here hS.out (by repeat (first | exact At.here | apply At.there)) ?_))
        try simp only [Act.put, Act.eval, Array.getD_eq_getD_getElem?, List.getElem?_toArray, List.getElem?_cons_succ, List.getElem?_cons_zero, Option.getD_some, List.setIfInBounds_toArray, List.set_cons_zero, List.set_cons_succ]
        refine wpJ_take 5 (oi := { dst := some 5, op := Op.assign (Operand.tmp 35), type := 27, pos := "esca.go:113", after := #[{ on := 3, ground := Ground.data }, { on := 4, ground := Ground.chain }, { on := 0, ground := Ground.phase }, { on := 1, ground := Ground.phase }, { on := 2, ground := Ground.phase }, { on := 3, ground := Ground.phase }, { on := 4, ground := Ground.phase }], guard := none }) rfl (by kernel_rfl) (by kernel_rfl) (fun _ _ _ h => h) hR (y_assign (by rfl) rfl (by rfl)) (fun _ => ?_)
        try simp only [Act.put, Act.eval, Array.getD_eq_getD_getElem?, List.getElem?_toArray, List.getElem?_cons_succ, List.getElem?_cons_zero, Option.getD_some, List.setIfInBounds_toArray, List.set_cons_zero, List.set_cons_succ]
        refine wpJ_done _ (by kernel_rfl) ?_
        go_wp2_with fail
        refine bodyPost_ret (res_cell_tmp hS.out Try.results31 Try.underlying33 rfl Try.size33 (by rfl) (by repeat (first | exact At.here | apply At.there)) (by rfl) (by rfl)) rfl ?_
        exact ⟨(by rw [e0.out]; exact ⟨none, 0, some ⟨_, 0, none⟩, 1, [(⟨4, b, (mtold (Es.mk m nd mn gt par nu false false))⟩, .slice a2 (mtold (Es.mk m nd mn gt par nu false false)).length c2)], rfl, Ints.nil _, Acts.row (hS.out.row (cs' := []) (bs' := _) (by repeat (first | exact At.here | apply At.there))) (hS.out.get (intsF (.slice a2 (mtold (Es.mk m nd mn gt par nu false false)).length c2) (mtold (Es.mk m nd mn gt par nu false false))) (by simp)), rfl⟩), hS.out.isNew⟩
      · intro K hK
        refine sw (by rfl) ?_
        refine st_storeAll (T := 33) hS.out rfl (by rfl) (by rfl) (by exact Try.size33) (by repeat (first | exact At.here | apply At.there)) (by rfl) (by rfl) ?_; intro w9 hS9; replace hS := Lib.hid hS9; clear hS9
        refine hK _ _ (fun _ => (by repeat (first | exact rows_nil _ | refine rows_here hS.out (by repeat (first | exact At.here | apply At.there)) ?_))) ?_
        clear hK K
        replace hR := rows_of hR w9 (by repeat (first | exact rows_nil _ | refine rows_here hS.out (by repeat (first | exact At.here | apply At.there)) ?_))
        try simp only [Act.put, Act.eval, Array.getD_eq_getD_getElem?, List.getElem?_toArray, List.getElem?_cons_succ, List.getElem?_cons_zero, Option.getD_some, List.setIfInBounds_toArray, List.set_cons_zero, List.set_cons_succ]
        refine wpJ_one 3 (oi := { dst := some 35, op := Op.buildSlice 27 1 #[(0, Operand.tmp 34)], type := 27, pos := "esca.go:113", after := #[{ on := 2, ground := Ground.data }, { on := 4, ground := Ground.gcOnly Departure.lateStores }], guard := none }) rfl (by kernel_rfl) ?_
        intro K hK
        refine sw (by rfl) ?_
        refine st_made hS.out (by go_simp; (first | done | exact ⟨rfl, rfl⟩)) ?_
        intro w9 hS9; replace hS := Lib.hid hS9; clear hS9
        refine hK _ _ (fun _ => (by repeat (first | exact rows_nil _ | refine rows_here hS.out (by repeat (first | exact At.here | apply At.there)) ?_))) ?_
        clear hK K
        replace hR := rows_of hR w9 (by repeat (first | exact rows_nil _ | refine rows_here hS.out (by repeat (first | exact At.here | apply At.there)) ?_))
        try simp only [Act.put, Act.eval, Array.getD_eq_getD_getElem?, List.getElem?_toArray, List.getElem?_cons_succ, List.getElem?_cons_zero, Option.getD_some, List.setIfInBounds_toArray, List.set_cons_zero, List.set_cons_succ]
        refine wpJ_take 5 (oi := { dst := some 5, op := Op.assign (Operand.tmp 35), type := 27, pos := "esca.go:113", after := #[{ on := 3, ground := Ground.data }, { on := 4, ground := Ground.chain }, { on := 0, ground := Ground.phase }, { on := 1, ground := Ground.phase }, { on := 2, ground := Ground.phase }, { on := 3, ground := Ground.phase }, { on := 4, ground := Ground.phase }], guard := none }) rfl (by kernel_rfl) (by kernel_rfl) (fun _ _ _ h => h) hR (y_assign (by rfl) rfl (by rfl)) (fun _ => ?_)
        try simp only [Act.put, Act.eval, Array.getD_eq_getD_getElem?, List.getElem?_toArray, List.getElem?_cons_succ, List.getElem?_cons_zero, Option.getD_some, List.setIfInBounds_toArray, List.set_cons_zero, List.set_cons_succ]
        refine wpJ_done _ (by kernel_rfl) ?_
        go_wp2_with fail
        refine bodyPost_ret (res_cell_tmp hS.out Try.results31 Try.underlying33 rfl Try.size33 (by rfl) (by repeat (first | exact At.here | apply At.there)) (by rfl) (by rfl)) rfl ?_
        exact ⟨(by rw [e0.out]; exact ⟨none, 0, some ⟨_, 0, none⟩, 1, [(⟨4, b, (mtold (Es.mk m nd mn gt par nu false false))⟩, .slice a2 (mtold (Es.mk m nd mn gt par nu false false)).length c2)], rfl, Ints.nil _, Acts.row (hS.out.row (cs' := []) (bs' := _) (by repeat (first | exact At.here | apply At.there))) (hS.out.get (intsF (.slice a2 (mtold (Es.mk m nd mn gt par nu false false)).length c2) (mtold (Es.mk m nd mn gt par nu false false))) (by simp)), rfl⟩), hS.out.isNew⟩
    · intro K hK
      refine sw (by rfl) ?_
      refine st_made hS.out (by go_simp; (first | done | exact ⟨rfl, rfl⟩)) ?_
      intro w9 hS9; replace hS := Lib.hid hS9; clear hS9
      refine hK _ _ (fun _ => (by repeat (first | exact rows_nil _ | refine rows_here hS.out (by repeat (first | exact At.here | apply At.there)) ?_))) ?_
      clear hK K
      replace hR := rows_of hR w9 (by repeat (first | exact rows_nil _ | refine rows_here hS.out (by repeat (first | exact At.here | apply At.there)) ?_))
      try simp only [Act.put, Act.eval, Array.getD_eq_getD_getElem?, List.getElem?_toArray, List.getElem?_cons_succ, List.getElem?_cons_zero, Option.getD_some, List.setIfInBounds_toArray, List.set_cons_zero, List.set_cons_succ]
      refine wpJ_one 1 (oi := { dst := some 33, op := Op.call { callee := Callee.value (Operand.func 27), args := #[Operand.tmp 32, Operand.const (Value.int IntKind.i64 0)], argTypes := #[33, 3] }, type := 33, pos := "esca.go:113", after := #[{ on := 0, ground := Ground.data }], guard := none }) rfl (by kernel_rfl) ?_
      intro K hK
      refine sw (by rfl) ?_
      refine st_fn Try.func27 (by kernel_rfl) (by kernel_rfl) rfl (by rfl) _ (to_ _ (Es.mk m nd mn gt par nu _ _) 0 a _ c) ?_
      rintro e w9 ⟨rfl, x⟩
      refine ⟨_, rfl, ?_⟩
      replace hS := Lib.hid (hS.out.call x); clear x
      refine hK _ _ (fun _ => (by repeat (first | exact rows_nil _ | refine rows_here hS.out (by repeat (first | exact At.here | apply At.there)) ?_))) ?_
      clear hK K
      replace hR := rows_of hR w9 (by repeat (first | exact rows_nil _ | refine rows_here hS.out (by repeat (first | exact At.here | apply At.there)) ?_))
      try simp only [Act.put, Act.eval, Array.getD_eq_getD_getElem?, List.getElem?_toArray, List.getElem?_cons_succ, List.getElem?_cons_zero, Option.getD_some, List.setIfInBounds_toArray, List.set_cons_zero, List.set_cons_succ]
      refine wpJ_one 4 (oi := { dst := none, op := Op.store 33 (Operand.tmp 4) (Operand.tmp 33), type := 0, pos := "esca.go:113", after := #[{ on := 1, ground := Ground.data }, { on := 1, ground := Ground.chain }, { on := 0, ground := Ground.phase }, { on := 1, ground := Ground.phase }, { on := 2, ground := Ground.textOnly Departure.lateStores }, { on := 3, ground := Ground.textOnly Departure.lateStores }], guard := none }) rfl (by kernel_rfl) ?_
      intro K hK
      refine sw (by rfl) ?_
      refine st_storeAll (T := 33) hS.out rfl (by rfl) (by rfl) (by exact Try.size33) (by repeat (first | exact At.here | apply At.there)) (by rfl) (by rfl) ?_; intro w9 hS9; replace hS := Lib.hid hS9; clear hS9
      refine hK _ _ (fun _ => (by repeat (first | exact rows_nil _ | refine rows_here hS.out (by repeat (first | exact At.here | apply At.there)) ?_))) ?_
      clear hK K
      replace hR := rows_of hR w9 (by repeat (first | exact rows_nil _ | refine rows_here hS.out (by repeat (first | exact At.here | apply At.there)) ?_))
      try simp only [Act.put, Act.eval, Array.getD_eq_getD_getElem?, List.getElem?_toArray, List.getElem?_cons_succ, List.getElem?_cons_zero, Option.getD_some, List.setIfInBounds_toArray, List.set_cons_zero, List.set_cons_succ]
      refine wpJ_take 5 (oi := { dst := some 5, op := Op.assign (Operand.tmp 35), type := 27, pos := "esca.go:113", after := #[{ on := 3, ground := Ground.data }, { on := 4, ground := Ground.chain }, { on := 0, ground := Ground.phase }, { on := 1, ground := Ground.phase }, { on := 2, ground := Ground.phase }, { on := 3, ground := Ground.phase }, { on := 4, ground := Ground.phase }], guard := none }) rfl (by kernel_rfl) (by kernel_rfl) (fun _ _ _ h => h) hR (y_assign (by rfl) rfl (by rfl)) (fun _ => ?_)
      try simp only [Act.put, Act.eval, Array.getD_eq_getD_getElem?, List.getElem?_toArray, List.getElem?_cons_succ, List.getElem?_cons_zero, Option.getD_some, List.setIfInBounds_toArray, List.set_cons_zero, List.set_cons_succ]
      refine wpJ_done _ (by kernel_rfl) ?_
      go_wp2_with fail
      refine bodyPost_ret (res_cell_tmp hS.out Try.results31 Try.underlying33 rfl Try.size33 (by rfl) (by repeat (first | exact At.here | apply At.there)) (by rfl) (by rfl)) rfl ?_
      exact ⟨(by rw [e0.out]; exact ⟨none, 0, some ⟨_, 0, none⟩, 1, [(⟨4, b, (mtold (Es.mk m nd mn gt par nu false false))⟩, .slice a2 (mtold (Es.mk m nd mn gt par nu false false)).length c2)], rfl, Ints.nil _, Acts.row (hS.out.row (cs' := []) (bs' := _) (by repeat (first | exact At.here | apply At.there))) (hS.out.get (intsF (.slice a2 (mtold (Es.mk m nd mn gt par nu false false)).length c2) (mtold (Es.mk m nd mn gt par nu false false))) (by simp)), rfl⟩), hS.out.isNew⟩
set_option maxHeartbeats 2000000 in
theorem last_l (w : World) (m nd mn gt : Int) (par : List Int) (b : Int) (pv sk : Bool) (a : Option Addr) (c : Nat) (hp : Ints w (.slice a par.length c) par) (hb : 0 ≤ b) (hb2 : b ≤ 255) (hl : par.length ≤ 16) (hq : 0 < par.length) :
    Calls Try.prog 31 #[esV (Es.mk m nd mn gt par (-1) pv sk) (.slice a par.length c), .int .u8 b] w fun e w' => REA w' e (mlast (Es.mk m nd mn gt par (-1) pv sk) b) ∧ New w w' := by
  have hS : St (fun _ => False) w w [] [intsF (.slice a par.length c) par] := (St.init w).own hp (by simp)
  replace hS := Lib.hid hS
  clear hp
  have hl2 : par.length ≤ 1000 := by omega
  have d1 : decide (0 < par.length) = true := decide_eq_true hq
  have e4 : mlast (Es.mk m nd mn gt par (-1) pv true) b = (Es.go (Es.mk m nd mn gt par (-1) pv true) 0, []) := by simp [mlast]
  have e0 : mlast (Es.mk m nd mn gt par (-1) false false) b = (Es.go (Es.mk m nd mn gt par (-1) false false) 0, [⟨4, b, (mtold (Es.mk m nd mn gt par (-1) false false))⟩]) := by simp [mlast, hq]
  have e1 : mlast (Es.mk m nd mn gt par (-1) true false) b = (Es.go (Es.mk m nd mn gt par (-1) true false) 0, [⟨5, b, (mtold (Es.mk m nd mn gt par (-1) true false))⟩]) := by simp [mlast, hq]
  replace e0 := Lib.hid e0
  replace e1 := Lib.hid e1
  replace e4 := Lib.hid e4
  clear hq
  go_enter Try.func31, Try.ntmps31
  go_wp2_with (first
    | (refine wl_made hS.out ?_; intro w9 hS9; replace hS := Lib.hid hS9; clear hS9)
    | (refine wl_load1 (T := 3) hS.out (by rfl) rfl (by rfl) Try.underlying3 rfl (by repeat (first | exact At.here | apply At.there)) (by rfl) ?_)
    | (refine wl_load1 (T := 4) hS.out (by rfl) rfl (by rfl) Try.underlying4 rfl (by repeat (first | exact At.here | apply At.there)) (by rfl) ?_)
    | (refine wl_load1 (T := 22) hS.out (by rfl) rfl (by rfl) Try.underlying22 rfl (by repeat (first | exact At.here | apply At.there)) (by rfl) ?_)
    | (refine wl_loadAll (T := 33) hS.out (by rfl) rfl (by rfl) Try.underlying33 rfl Try.size33 (by repeat (first | exact At.here | apply At.there)) (by rfl) ?_)
    | (refine wl_storeAll (T := 24) hS.out (by rfl) rfl (by rfl) (by rfl) (by exact Try.size24) (by repeat (first | exact At.here | apply At.there)) (by rfl) (by rfl) ?_; intro w9 hS9; replace hS := Lib.hid hS9; clear hS9)
    | (refine wl_storeAll (T := 33) hS.out (by rfl) rfl (by rfl) (by rfl) (by exact Try.size33) (by repeat (first | exact At.here | apply At.there)) (by rfl) (by rfl) ?_; intro w9 hS9; replace hS := Lib.hid hS9; clear hS9)
    | (refine wl_store1 (v := .slice _ _ _) (T := 22) hS.out (by rfl) rfl (by rfl) (by rfl) Try.size22 (by repeat (first | exact At.here | apply At.there)) (by rfl) (by rfl) (by rfl) ?_; intro w9 hS9; simp only [List.set_cons_zero, List.set_cons_succ] at hS9; replace hS := Lib.hid hS9; clear hS9)
    | (refine wl_store1 (v := .int _ _) (T := 3) hS.out (by rfl) rfl (by rfl) (by rfl) Try.size3 (by repeat (first | exact At.here | apply At.there)) (by rfl) (by rfl) (by rfl) ?_; intro w9 hS9; simp only [List.set_cons_zero, List.set_cons_succ] at hS9; replace hS := Lib.hid hS9; clear hS9)
    | (go_at_call 17; refine (clone_ _ par a c (hS.out.get (intsF (.slice a par.length c) par) (by simp)) hl2).mono ?_; rintro e w9 ⟨⟨a', c', rfl, ho⟩, x⟩; replace hS := Lib.hid ((hS.out.call x).own ho.own (by simp)); clear x ho)
    | (go_at_call 30; refine (told_ _ (Es.mk m nd mn gt par (-1) pv sk) a c (hS.out.get (intsF (.slice a par.length c) par) (by simp)) hl).mono ?_; rintro e w9 ⟨⟨a2, c2, rfl, ho⟩, x⟩; replace hS := Lib.hid ((hS.out.call x).own ho.own (by simp)); clear x ho)
    | (go_at_call 27; refine (to_ _ (Es.mk m nd mn gt par (-1) _ _) 0 a _ c).mono ?_; rintro e w9 ⟨rfl, x⟩; replace hS := Lib.hid (hS.out.call x); clear x))
  · subst_vars
    refine bodyPost_ret (res_cell_tmp hS.out Try.results31 Try.underlying33 rfl Try.size33 (by rfl) (by repeat (first | exact At.here | apply At.there)) (by rfl) (by rfl)) rfl ?_
    exact ⟨(by rw [e4.out]; exact REA.go _ _ 0), hS.out.isNew⟩
  · subst_vars
    refine region_St2 hS.out 2 0 (fun _ => true) (by kernel_rfl) (by rfl) (by rfl) ?_
    intro w9 hR hS9; replace hS := Lib.hid hS9; clear hS9
    refine wpJ_take 0 (oi := { dst := some 32, op := Op.load 33 (Operand.tmp 2), type := 33, pos := "esca.go:113", after := #[], guard := none }) rfl (by kernel_rfl) (by kernel_rfl) (fun _ _ _ h => h) hR (y_loadAll (T := 33) (by rfl) rfl (by rfl) Try.underlying33 rfl Try.size33 (by repeat (first | exact At.here | apply At.there)) (by rfl)) (fun _ => ?_)
    try simp only [Act.put, Act.eval, Array.getD_eq_getD_getElem?, List.getElem?_toArray, List.getElem?_cons_succ, List.getElem?_cons_zero, Option.getD_some, List.setIfInBounds_toArray, List.set_cons_zero, List.set_cons_succ]
    refine wpJ_take 2 (oi := { dst := some 34, op := Op.load 24 (Operand.tmp 6), type := 24, pos := "esca.go:113", after := #[{ on := 4, ground := Ground.gcOnly Departure.lateStores }], guard := none }) rfl (by kernel_rfl) (by kernel_rfl) (fun _ _ _ h => h) hR (y_loadAll (T := 24) (by rfl) rfl (by rfl) Try.underlying24 rfl Try.size24 (by repeat (first | exact At.here | apply At.there)) (by rfl)) (fun _ => ?_)
    try simp only [Act.put, Act.eval, Array.getD_eq_getD_getElem?, List.getElem?_toArray, List.getElem?_cons_succ, List.getElem?_cons_zero, Option.getD_some, List.setIfInBounds_toArray, List.set_cons_zero, List.set_cons_succ]
    refine wpJ_two 1 3 (oi := { dst := some 33, op := Op.call { callee := Callee.value (Operand.func 27), args := #[Operand.tmp 32, Operand.const (Value.int IntKind.i64 0)], argTypes := #[33, 3] }, type := 33, pos := "esca.go:113", after := #[{ on := 0, ground := Ground.data }], guard := none }) (ok := { dst := some 35, op := Op.buildSlice 27 1 #[(0, Operand.tmp 34)], type := 27, pos := "esca.go:113", after := #[{ on := 2, ground := Ground.data }, { on := 4, ground := Ground.gcOnly Departure.lateStores }], guard := none }) rfl rfl (by kernel_rfl) ?_ ?_
    · intro K hK
      refine sw (by rfl) ?_
      refine st_fn Try.func27 (by kernel_rfl) (by kernel_rfl) rfl (by rfl) _ (to_ _ (Es.mk m nd mn gt par (-1) _ _) 0 a _ c) ?_
      rintro e w9 ⟨rfl, x⟩
      refine ⟨_, rfl, ?_⟩
      replace hS := Lib.hid (hS.out.call x); clear x
      refine hK _ _ (fun _ => (by repeat (first | exact rows_nil _ | refine rows_here hS.out (by repeat (first | exact At.here | apply At.there)) ?_))) ?_
      clear hK K
      replace hR := rows_of hR w9 (by repeat (first | exact rows_nil _ | refine rows_here hS.out (by repeat (first | exact At.here | apply At.there)) ?_))
      try simp only [Act.put, Act.eval, Array.getD_eq_getD_getElem?, List.getElem?_toArray, List.getElem?_cons_succ, List.getElem?_cons_zero, Option.getD_some, List.setIfInBounds_toArray, List.set_cons_zero, List.set_cons_succ]
      refine wpJ_two 3 4 (oi := { dst := some 35, op := Op.buildSlice 27 1 #[(0, Operand.tmp 34)], type := 27, pos := "esca.go:113", after := #[{ on := 2, ground := Ground.data }, { on := 4, ground := Ground.gcOnly Departure.lateStores }], guard := none }) (ok := { dst := none, op := Op.store 33 (Operand.tmp 4) (Operand.tmp 33), type := 0, pos := "esca.go:113", after := #[{ on := 1, ground := Ground.data }, { on := 1, ground := Ground.chain }, { on := 0, ground := Ground.phase }, { on := 1, ground := Ground.phase }, { on := 2, ground := Ground.textOnly Departure.lateStores }, { on := 3, ground := Ground.textOnly Departure.lateStores }], guard := none }) rfl rfl (by kernel_rfl) ?_ ?_
      · intro K hK
        refine sw (by rfl) ?_
        refine st_made hS.out (by go_simp; (first | done | exact ⟨rfl, rfl⟩)) ?_
        intro w9 hS9; replace hS := Lib.hid hS9; clear hS9
        refine hK _ _ (fun _ => (by repeat (first | exact rows_nil _ | refine rows_here hS.out (by repeat (first | exact At.here | apply At.there)) ?_))) ?_
        clear hK K
        replace hR := rows_of hR w9 (by repeat (first | exact rows_nil _ | refine rows_here hS.out (by repeat (first | exact At.here | apply At.there)) ?_))
        try simp only [Act.put, Act.eval, Array.getD_eq_getD_getElem?, List.getElem?_toArray, List.getElem?_cons_succ, List.getElem?_cons_zero, Option.getD_some, List.setIfInBounds_toArray, List.set_cons_zero, List.set_cons_succ]
        refine wpJ_one 4 (oi := { dst := none, op := Op.store 33 (Operand.tmp 4) (Operand.tmp 33), type := 0, pos := "esca.go:113", after := #[{ on := 1, ground := Ground.data }, { on := 1, ground := Ground.chain }, { on := 0, ground := Ground.phase }, { on := 1, ground := Ground.phase }, { on := 2, ground := Ground.textOnly Departure.lateStores }, { on := 3, ground := Ground.textOnly Departure.lateStores }], guard := none }) rfl (by kernel_rfl) ?_
        intro K hK
        refine sw (by rfl) ?_
        refine st_storeAll (T := 33) hS.out rfl (by rfl) (by rfl) (by exact Try.size33) (by repeat (first | exact At.here | apply At.there)) (by rfl) (by rfl) ?_; intro w9 hS9; replace hS := Lib.hid hS9; clear hS9
        refine hK _ _ (fun _ => (by repeat (first | exact rows_nil _ | refine rows_here hS.out (by repeat (first | exact At.here | apply At.there)) ?_))) ?_
        clear hK K
        replace hR := rows_of hR w9 (by repeat (first | exact rows_nil _ | refine rows_here hS.out (by repeat (first | exact At.here | apply At.there)) ?_))
        try simp only [Act.put, Act.eval, Array.getD_eq_getD_getElem?, List.getElem?_toArray, List.getElem?_cons_succ, List.getElem?_cons_zero, Option.getD_some, List.setIfInBounds_toArray, List.set_cons_zero, List.set_cons_succ]
        refine wpJ_take 5 (oi := { dst := some 5, op := Op.assign (Operand.tmp 35), type := 27, pos := "esca.go:113", after := #[{ on := 3, ground := Ground.data }, { on := 4, ground := Ground.chain }, { on := 0, ground := Ground.phase }, { on := 1, ground := Ground.phase }, { on := 2, ground := Ground.phase }, { on := 3, ground := Ground.phase }, { on := 4, ground := Ground.phase }], guard := none }) rfl (by kernel_rfl) (by kernel_rfl) (fun _ _ _ h => h) hR (y_assign (by rfl) rfl (by rfl)) (fun _ => ?_)
        try simp only [Act.put, Act.eval, Array.getD_eq_getD_getElem?, List.getElem?_toArray, List.getElem?_cons_succ, List.getElem?_cons_zero, Option.getD_some, List.setIfInBounds_toArray, List.set_cons_zero, List.set_cons_succ]
        refine wpJ_done _ (by kernel_rfl) ?_
        go_wp2_with fail
        refine bodyPost_ret (res_cell_tmp hS.out Try.results31 Try.underlying33 rfl Try.size33 (by rfl) (by repeat (first | exact At.here | apply At.there)) (by rfl) (by rfl)) rfl ?_
        exact ⟨(by rw [e1.out]; exact ⟨none, 0, some ⟨_, 0, none⟩, 1, [(⟨5, b, (mtold (Es.mk m nd mn gt par (-1) true false))⟩, .slice a2 (mtold (Es.mk m nd mn gt par (-1) true false)).length c2)], rfl, Ints.nil _, Acts.row (hS.out.row (cs' := []) (bs' := _) (by repeat (first | exact At.here | apply At.there))) (hS.out.get (intsF (.slice a2 (mtold (Es.mk m nd mn gt par (-1) true false)).length c2) (mtold (Es.mk m nd mn gt par (-1) true false))) (by simp)), rfl⟩), hS.out.isNew⟩
      · intro K hK
        refine sw (by rfl) ?_
        refine st_storeAll (T := 33) hS.out rfl (by rfl) (by rfl) (by exact Try.size33) (by repeat (first | exact At.here | apply At.there)) (by rfl) (by rfl) ?_; intro w9 hS9; replace hS := Lib.hid hS9; clear hS9
        refine hK _ _ (fun _ => (by repeat (first | exact rows_nil _ | refine rows_here hS.out (by repeat (first | exact At.here | apply At.there)) ?_))) ?_
        clear hK K
        replace hR := rows_of hR w9 (by repeat (first | exact rows_nil _ | refine rows_here hS.out (by repeat (first | exact At.here | apply At.there)) ?_))
        try simp only [Act.put, Act.eval, Array.getD_eq_getD_getElem?, List.getElem?_toArray, List.getElem?_cons_succ, List.getElem?_cons_zero, Option.getD_some, List.setIfInBounds_toArray, List.set_cons_zero, List.set_cons_succ]
        refine wpJ_one 3 (oi := { dst := some 35, op := Op.buildSlice 27 1 #[(0, Operand.tmp 34)], type := 27, pos := "esca.go:113", after := #[{ on := 2, ground := Ground.data }, { on := 4, ground := Ground.gcOnly Departure.lateStores }], guard := none }) rfl (by kernel_rfl) ?_
        intro K hK
        refine sw (by rfl) ?_
        refine st_made hS.out (by go_simp; (first | done | exact ⟨rfl, rfl⟩)) ?_
        intro w9 hS9; replace hS := Lib.hid hS9; clear hS9
        refine hK _ _ (fun _ => (by repeat (first | exact rows_nil _ | refine rows_here hS.out (by repeat (first | exact At.here | apply At.there)) ?_))) ?_
        clear hK K
        replace hR := rows_of hR w9 (by repeat (first | exact rows_nil _ | refine rows_here hS.out (by repeat (first | exact At.here | apply At.there)) ?_))
        try simp only [Act.put, Act.eval, Array.getD_eq_getD_getElem?, List.getElem?_toArray, List.getElem?_cons_succ, List.getElem?_cons_zero, Option.getD_some, List.setIfInBounds_toArray, List.set_cons_zero, List.set_cons_succ]
        refine wpJ_take 5 (oi := { dst := some 5, op := Op.assign (Operand.tmp 35), type := 27, pos := "esca.go:113", after := #[{ on := 3, ground := Ground.data }, { on := 4, ground := Ground.chain }, { on := 0, ground := Ground.phase }, { on := 1, ground := Ground.phase }, { on := 2, ground := Ground.phase }, { on := 3, ground := Ground.phase }, { on := 4, ground := Ground.phase }], guard := none }) rfl (by kernel_rfl) (by kernel_rfl) (fun _ _ _ h => h) hR (y_assign (by rfl) rfl (by rfl)) (fun _ => ?_)
        try simp only [Act.put, Act.eval, Array.getD_eq_getD_getElem?, List.getElem?_toArray, List.getElem?_cons_succ, List.getElem?_cons_zero, Option.getD_some, List.setIfInBounds_toArray, List.set_cons_zero, List.set_cons_succ]
        refine wpJ_done _ (by kernel_rfl) ?_
        go_wp2_with fail
        refine bodyPost_ret (res_cell_tmp hS.out Try.results31 Try.underlying33 rfl Try.size33 (by rfl) (by repeat (first | exact At.here | apply At.there)) (by rfl) (by rfl)) rfl ?_
        exact ⟨(by rw [e1.out]; exact ⟨none, 0, some ⟨_, 0, none⟩, 1, [(⟨5, b, (mtold (Es.mk m nd mn gt par (-1) true false))⟩, .slice a2 (mtold (Es.mk m nd mn gt par (-1) true false)).length c2)], rfl, Ints.nil _, Acts.row (hS.out.row (cs' := []) (bs' := _) (by repeat (first | exact At.here | apply At.there))) (hS.out.get (intsF (.slice a2 (mtold (Es.mk m nd mn gt par (-1) true false)).length c2) (mtold (Es.mk m nd mn gt par (-1) true false))) (by simp)), rfl⟩), hS.out.isNew⟩
    · intro K hK
      refine sw (by rfl) ?_
      refine st_made hS.out (by go_simp; (first | done | exact ⟨rfl, rfl⟩)) ?_
      intro w9 hS9; replace hS := Lib.hid hS9; clear hS9
      refine hK _ _ (fun _ => (by repeat (first | exact rows_nil _ | refine rows_here hS.out (by repeat (first | exact At.here | apply At.there)) ?_))) ?_
      clear hK K
      replace hR := rows_of hR w9 (by repeat (first | exact rows_nil _ | refine rows_here hS.out (by repeat (first | exact At.here | apply At.there)) ?_))
      try simp only [Act.put, Act.eval, Array.getD_eq_getD_getElem?, List.getElem?_toArray, List.getElem?_cons_succ, List.getElem?_cons_zero, Option.getD_some, List.setIfInBounds_toArray, List.set_cons_zero, List.set_cons_succ]
      refine wpJ_one 1 (oi := { dst := some 33, op := Op.call { callee := Callee.value (Operand.func 27), args := #[Operand.tmp 32, Operand.const (Value.int IntKind.i64 0)], argTypes := #[33, 3] }, type := 33, pos := "esca.go:113", after := #[{ on := 0, ground := Ground.data }], guard := none }) rfl (by kernel_rfl) ?_
      intro K hK
      refine sw (by rfl) ?_
      refine st_fn Try.func27 (by kernel_rfl) (by kernel_rfl) rfl (by rfl) _ (to_ _ (Es.mk m nd mn gt par (-1) _ _) 0 a _ c) ?_
      rintro e w9 ⟨rfl, x⟩
      refine ⟨_, rfl, ?_⟩
      replace hS := Lib.hid (hS.out.call x); clear x
      refine hK _ _ (fun _ => (by repeat (first | exact rows_nil _ | refine rows_here hS.out (by repeat (first | exact At.here | apply At.there)) ?_))) ?_
      clear hK K
      replace hR := rows_of hR w9 (by repeat (first | exact rows_nil _ | refine rows_here hS.out (by repeat (first | exact At.here | apply At.there)) ?_))
      try simp only [Act.put, Act.eval, Array.getD_eq_getD_getElem?, List.getElem?_toArray, List.getElem?_cons_succ, List.getElem?_cons_zero, Option.getD_some, List.setIfInBounds_toArray, List.set_cons_zero, List.set_cons_succ]
      refine wpJ_one 4 (oi := { dst := none, op := Op.store 33 (Operand.tmp 4) (Operand.tmp 33), type := 0, pos := "esca.go:113", after := #[{ on := 1, ground := Ground.data }, { on := 1, ground := Ground.chain }, { on := 0, ground := Ground.phase }, { on := 1, ground := Ground.phase }, { on := 2, ground := Ground.textOnly Departure.lateStores }, { on := 3, ground := Ground.textOnly Departure.lateStores }], guard := none }) rfl (by kernel_rfl) ?_
      intro K hK
      refine sw (by rfl) ?_
      refine st_storeAll (T := 33) hS.out rfl (by rfl) (by rfl) (by exact Try.size33) (by repeat (first | exact At.here | apply At.there)) (by rfl) (by rfl) ?_; intro w9 hS9; replace hS := Lib.hid hS9; clear hS9
      refine hK _ _ (fun _ => (by repeat (first | exact rows_nil _ | refine rows_here hS.out (by repeat (first | exact At.here | apply At.there)) ?_))) ?_
      clear hK K
      replace hR := rows_of hR w9 (by repeat (first | exact rows_nil _ | refine rows_here hS.out (by repeat (first | exact At.here | apply At.there)) ?_))
      try simp only [Act.put, Act.eval, Array.getD_eq_getD_getElem?, List.getElem?_toArray, List.getElem?_cons_succ, List.getElem?_cons_zero, Option.getD_some, List.setIfInBounds_toArray, List.set_cons_zero, List.set_cons_succ]
      refine wpJ_take 5 (oi := { dst := some 5, op := Op.assign (Operand.tmp 35), type := 27, pos := "esca.go:113", after := #[{ on := 3, ground := Ground.data }, { on := 4, ground := Ground.chain }, { on := 0, ground := Ground.phase }, { on := 1, ground := Ground.phase }, { on := 2, ground := Ground.phase }, { on := 3, ground := Ground.phase }, { on := 4, ground := Ground.phase }], guard := none }) rfl (by kernel_rfl) (by kernel_rfl) (fun _ _ _ h => h) hR (y_assign (by rfl) rfl (by rfl)) (fun _ => ?_)
      try simp only [Act.put, Act.eval, Array.getD_eq_getD_getElem?, List.getElem?_toArray, List.getElem?_cons_succ, List.getElem?_cons_zero, Option.getD_some, List.setIfInBounds_toArray, List.set_cons_zero, List.set_cons_succ]
      refine wpJ_done _ (by kernel_rfl) ?_
      go_wp2_with fail
      refine bodyPost_ret (res_cell_tmp hS.out Try.results31 Try.underlying33 rfl Try.size33 (by rfl) (by repeat (first | exact At.here | apply At.there)) (by rfl) (by rfl)) rfl ?_
      exact ⟨(by rw [e1.out]; exact ⟨none, 0, some ⟨_, 0, none⟩, 1, [(⟨5, b, (mtold (Es.mk m nd mn gt par (-1) true false))⟩, .slice a2 (mtold (Es.mk m nd mn gt par (-1) true false)).length c2)], rfl, Ints.nil _, Acts.row (hS.out.row (cs' := []) (bs' := _) (by repeat (first | exact At.here | apply At.there))) (hS.out.get (intsF (.slice a2 (mtold (Es.mk m nd mn gt par (-1) true false)).length c2) (mtold (Es.mk m nd mn gt par (-1) true false))) (by simp)), rfl⟩), hS.out.isNew⟩
  · subst_vars
    refine bodyPost_ret (res_cell_tmp hS.out Try.results31 Try.underlying33 rfl Try.size33 (by rfl) (by repeat (first | exact At.here | apply At.there)) (by rfl) (by rfl)) rfl ?_
    exact ⟨(by rw [e4.out]; exact REA.go _ _ 0), hS.out.isNew⟩
  · subst_vars
    refine region_St2 hS.out 2 0 (fun _ => true) (by kernel_rfl) (by rfl) (by rfl) ?_
    intro w9 hR hS9; replace hS := Lib.hid hS9; clear hS9
    refine wpJ_take 0 (oi := { dst := some 32, op := Op.load 33 (Operand.tmp 2), type := 33, pos := "esca.go:113", after := #[], guard := none }) rfl (by kernel_rfl) (by kernel_rfl) (fun _ _ _ h => h) hR (y_loadAll (T := 33) (by rfl) rfl (by rfl) Try.underlying33 rfl Try.size33 (by repeat (first | exact At.here | apply At.there)) (by rfl)) (fun _ => ?_)
    try simp only [Act.put, Act.eval, Array.getD_eq_getD_getElem?, List.getElem?_toArray, List.getElem?_cons_succ, List.getElem?_cons_zero, Option.getD_some, List.setIfInBounds_toArray, List.set_cons_zero, List.set_cons_succ]
    refine wpJ_take 2 (oi := { dst := some 34, op := Op.load 24 (Operand.tmp 6), type := 24, pos := "esca.go:113", after := #[{ on := 4, ground := Ground.gcOnly Departure.lateStores }], guard := none }) rfl (by kernel_rfl) (by kernel_rfl) (fun _ _ _ h => h) hR (y_loadAll (T := 24) (by rfl) rfl (by rfl) Try.underlying24 rfl Try.size24 (by repeat (first | exact At.here | apply At.there)) (by rfl)) (fun _ => ?_)
    try simp only [Act.put, Act.eval, Array.getD_eq_getD_getElem?, List.getElem?_toArray, List.getElem?_cons_succ, List.getElem?_cons_zero, Option.getD_some, List.setIfInBounds_toArray, List.set_cons_zero, List.set_cons_succ]
    refine wpJ_two 1 3 (oi := { dst := some 33, op := Op.call { callee := Callee.value (Operand.func 27), args := #[Operand.tmp 32, Operand.const (Value.int IntKind.i64 0)], argTypes := #[33, 3] }, type := 33, pos := "esca.go:113", after := #[{ on := 0, ground := Ground.data }], guard := none }) (ok := { dst := some 35, op := Op.buildSlice 27 1 #[(0, Operand.tmp 34)], type := 27, pos := "esca.go:113", after := #[{ on := 2, ground := Ground.data }, { on := 4, ground := Ground.gcOnly Departure.lateStores }], guard := none }) rfl rfl (by kernel_rfl) ?_ ?_
    · intro K hK
      refine sw (by rfl) ?_
      refine st_fn Try.func27 (by kernel_rfl) (by kernel_rfl) rfl (by rfl) _ (to_ _ (Es.mk m nd mn gt par (-1) _ _) 0 a _ c) ?_
      rintro e w9 ⟨rfl, x⟩
      refine ⟨_, rfl, ?_⟩
      replace hS := Lib.hid (hS.out.call x); clear x
      refine hK _ _ (fun _ => (by repeat (first | exact rows_nil _ | refine rows_here hS.out (by repeat (first | exact At.here | apply At.there)) ?_))) ?_
      clear hK K
      replace hR := rows_of hR w9 (by repeat (first | exact rows_nil _ | refine rows_here hS.out (by repeat (first | exact At.here | apply At.there)) ?_))
      try simp only [Act.put, Act.eval, Array.getD_eq_getD_getElem?, List.getElem?_toArray, List.getElem?_cons_succ, List.getElem?_cons_zero, Option.getD_some, List.setIfInBounds_toArray, List.set_cons_zero, List.set_cons_succ]
      refine wpJ_two 3 4 (oi := { dst := some 35, op := Op.buildSlice 27 1 #[(0, Operand.tmp 34)], type := 27, pos := "esca.go:113", after := #[{ on := 2, ground := Ground.data }, { on := 4, ground := Ground.gcOnly Departure.lateStores }], guard := none }) (ok := { dst := none, op := Op.store 33 (Operand.tmp 4) (Operand.tmp 33), type := 0, pos := "esca.go:113", after := #[{ on := 1, ground := Ground.data }, { on := 1, ground := Ground.chain }, { on := 0, ground := Ground.phase }, { on := 1, ground := Ground.phase }, { on := 2, ground := Ground.textOnly Departure.lateStores }, { on := 3, ground := Ground.textOnly Departure.lateStores }], guard := none }) rfl rfl (by kernel_rfl) ?_ ?_
      · intro K hK
        refine sw (by rfl) ?_
        refine st_made hS.out (by go_simp; (first | done | exact ⟨rfl, rfl⟩)) ?_
        intro w9 hS9; replace hS := Lib.hid hS9; clear hS9
        refine hK _ _ (fun _ => (by repeat (first | exact rows_nil _ | refine rows_here hS.out (by repeat (first | exact At.here | apply At.there)) ?_))) ?_
        clear hK K
        replace hR := rows_of hR w9 (by repeat (first | exact rows_nil _ | refine rows_here hS.out (by repeat (first | exact At.here | apply At.there)) ?_))
        try simp only [Act.put, Act.eval, Array.getD_eq_getD_getElem?, List.getElem?_toArray, List.getElem?_cons_succ, List.getElem?_cons_zero, Option.getD_some, List.setIfInBounds_toArray, List.set_cons_zero, List.set_cons_succ]
        refine wpJ_one 4 (oi := { dst := none, op := Op.store 33 (Operand.tmp 4) (Operand.tmp 33), type := 0, pos := "esca.go:113", after := #[{ on := 1, ground := Ground.data }, { on := 1, ground := Ground.chain }, { on := 0, ground := Ground.phase }, { on := 1, ground := Ground.phase }, { on := 2, ground := Ground.textOnly Departure.lateStores }, { on := 3, ground := Ground.textOnly Departure.lateStores }], guard := none }) rfl (by kernel_rfl) ?_
        intro K hK
        refine sw (by rfl) ?_
        refine st_storeAll (T := 33) hS.out rfl (by rfl) (by rfl) (by exact Try.size33) (by repeat (first | exact At.here | apply At.there)) (by rfl) (by rfl) ?_; intro w9 hS9; replace hS := Lib.hid hS9; clear hS9
        refine hK _ _ (fun _ => (by repeat (first | exact rows_nil _ | refine rows_here hS.out (by repeat (first | exact At.here | apply At.there)) ?_))) ?_
        clear hK K
        replace hR := rows_of hR w9 (by repeat (first | exact rows_nil _ | refine rows_here hS.out (by repeat (first | exact At.here | apply At.there)) ?_))
        try simp only [Act.put, Act.eval, Array.getD_eq_getD_getElem?, List.getElem?_toArray, List.getElem?_cons_succ, List.getElem?_cons_zero, Option.getD_some, List.setIfInBounds_toArray, List.set_cons_zero, List.set_cons_succ]
        refine wpJ_take 5 (oi := { dst := some 5, op := Op.assign (Operand.tmp 35), type := 27, pos := "esca.go:113", after := #[{ on := 3, ground := Ground.data }, { on := 4, ground := Ground.chain }, { on := 0, ground := Ground.phase }, { on := 1, ground := Ground.phase }, { on := 2, ground := Ground.phase }, { on := 3, ground := Ground.phase }, { on := 4, ground := Ground.phase }], guard := none }) rfl (by kernel_rfl) (by kernel_rfl) (fun _ _ _ h => h) hR (y_assign (by rfl) rfl (by rfl)) (fun _ => ?_)
        try simp only [Act.put, Act.eval, Array.getD_eq_getD_getElem?, List.getElem?_toArray, List.getElem?_cons_succ, List.getElem?_cons_zero, Option.getD_some, List.setIfInBounds_toArray, List.set_cons_zero, List.set_cons_succ]
        refine wpJ_done _ (by kernel_rfl) ?_
        go_wp2_with fail
        refine bodyPost_ret (res_cell_tmp hS.out Try.results31 Try.underlying33 rfl Try.size33 (by rfl) (by repeat (first | exact At.here | apply At.there)) (by rfl) (by rfl)) rfl ?_
        exact ⟨(by rw [e0.out]; exact ⟨none, 0, some ⟨_, 0, none⟩, 1, [(⟨4, b, (mtold (Es.mk m nd mn gt par (-1) false false))⟩, .slice a2 (mtold (Es.mk m nd mn gt par (-1) false false)).length c2)], rfl, Ints.nil _, Acts.row (hS.out.row (cs' := []) (bs' := _) (by repeat (first | exact At.here | apply At.there))) (hS.out.get (intsF (.slice a2 (mtold (Es.mk m nd mn gt par (-1) false false)).length c2) (mtold (Es.mk m nd mn gt par (-1) false false))) (by simp)), rfl⟩), hS.out.isNew⟩
      · intro K hK
        refine sw (by rfl) ?_
        refine st_storeAll (T := 33) hS.out rfl (by rfl) (by rfl) (by exact Try.size33) (by repeat (first | exact At.here | apply At.there)) (by rfl) (by rfl) ?_; intro w9 hS9; replace hS := Lib.hid hS9; clear hS9
        refine hK _ _ (fun _ => (by repeat (first | exact rows_nil _ | refine rows_here hS.out (by repeat (first | exact At.here | apply At.there)) ?_))) ?_
        clear hK K
        replace hR := rows_of hR w9 (by repeat (first | exact rows_nil _ | refine rows_here hS.out (by repeat (first | exact At.here | apply At.there)) ?_))
        try simp only [Act.put, Act.eval, Array.getD_eq_getD_getElem?, List.getElem?_toArray, List.getElem?_cons_succ, List.getElem?_cons_zero, Option.getD_some, List.setIfInBounds_toArray, List.set_cons_zero, List.set_cons_succ]
        refine wpJ_one 3 (oi := { dst := some 35, op := Op.buildSlice 27 1 #[(0, Operand.tmp 34)], type := 27, pos := "esca.go:113", after := #[{ on := 2, ground := Ground.data }, { on := 4, ground := Ground.gcOnly Departure.lateStores }], guard := none }) rfl (by kernel_rfl) ?_
        intro K hK
        refine sw (by rfl) ?_
        refine st_made hS.out (by go_simp; (first | done | exact ⟨rfl, rfl⟩)) ?_
        intro w9 hS9; replace hS := Lib.hid hS9; clear hS9
        refine hK _ _ (fun _ => (by repeat (first | exact rows_nil _ | refine rows_here hS.out (by repeat (first | exact At.here | apply At.there)) ?_))) ?_
        clear hK K
        replace hR := rows_of hR w9 (by repeat (first | exact rows_nil _ | refine rows_here hS.out (by repeat (first | exact At.here | apply At.there)) ?_))
        try simp only [Act.put, Act.eval, Array.getD_eq_getD_getElem?, List.getElem?_toArray, List.getElem?_cons_succ, List.getElem?_cons_zero, Option.getD_some, List.setIfInBounds_toArray, List.set_cons_zero, List.set_cons_succ]
        refine wpJ_take 5 (oi := { dst := some 5, op := Op.assign (Operand.tmp 35), type := 27, pos := "esca.go:113", after := #[{ on := 3, ground := Ground.data }, { on := 4, ground := Ground.chain }, { on := 0, ground := Ground.phase }, { on := 1, ground := Ground.phase }, { on := 2, ground := Ground.phase }, { on := 3, ground := Ground.phase }, { on := 4, ground := Ground.phase }], guard := none }) rfl (by kernel_rfl) (by kernel_rfl) (fun _ _ _ h => h) hR (y_assign (by rfl) rfl (by rfl)) (fun _ => ?_)
        try simp only [Act.put, Act.eval, Array.getD_eq_getD_getElem?, List.getElem?_toArray, List.getElem?_cons_succ, List.getElem?_cons_zero, Option.getD_some, List.setIfInBounds_toArray, List.set_cons_zero, List.set_cons_succ]
        refine wpJ_done _ (by kernel_rfl) ?_
        go_wp2_with fail
        refine bodyPost_ret (res_cell_tmp hS.out Try.results31 Try.underlying33 rfl Try.size33 (by rfl) (by repeat (first | exact At.here | apply At.there)) (by rfl) (by rfl)) rfl ?_
        exact ⟨(by rw [e0.out]; exact ⟨none, 0, some ⟨_, 0, none⟩, 1, [(⟨4, b, (mtold (Es.mk m nd mn gt par (-1) false false))⟩, .slice a2 (mtold (Es.mk m nd mn gt par (-1) false false)).length c2)], rfl, Ints.nil _, Acts.row (hS.out.row (cs' := []) (bs' := _) (by repeat (first | exact At.here | apply At.there))) (hS.out.get (intsF (.slice a2 (mtold (Es.mk m nd mn gt par (-1) false false)).length c2) (mtold (Es.mk m nd mn gt par (-1) false false))) (by simp)), rfl⟩), hS.out.isNew⟩
    · intro K hK
      refine sw (by rfl) ?_
      refine st_made hS.out (by go_simp; (first | done | exact ⟨rfl, rfl⟩)) ?_
      intro w9 hS9; replace hS := Lib.hid hS9; clear hS9
      refine hK _ _ (fun _ => (by repeat (first | exact rows_nil _ | refine rows_here hS.out (by repeat (first | exact At.here | apply At.there)) ?_))) ?_
      clear hK K
      replace hR := rows_of hR w9 (by repeat (first | exact rows_nil _ | refine rows_here hS.out (by repeat (first | exact At.here | apply At.there)) ?_))
      try simp only [Act.put, Act.eval, Array.getD_eq_getD_getElem?, List.getElem?_toArray, List.getElem?_cons_succ, List.getElem?_cons_zero, Option.getD_some, List.setIfInBounds_toArray, List.set_cons_zero, List.set_cons_succ]
      refine wpJ_one 1 (oi := { dst := some 33, op := Op.call { callee := Callee.value (Operand.func 27), args := #[Operand.tmp 32, Operand.const (Value.int IntKind.i64 0)], argTypes := #[33, 3] }, type := 33, pos := "esca.go:113", after := #[{ on := 0, ground := Ground.data }], guard := none }) rfl (by kernel_rfl) ?_
      intro K hK
      refine sw (by rfl) ?_
      refine st_fn Try.func27 (by kernel_rfl) (by kernel_rfl) rfl (by rfl) _ (to_ _ (Es.mk m nd mn gt par (-1) _ _) 0 a _ c) ?_
      rintro e w9 ⟨rfl, x⟩
      refine ⟨_, rfl, ?_⟩
      replace hS := Lib.hid (hS.out.call x); clear x
      refine hK _ _ (fun _ => (by repeat (first | exact rows_nil _ | refine rows_here hS.out (by repeat (first | exact At.here | apply At.there)) ?_))) ?_
      clear hK K
      replace hR := rows_of hR w9 (by repeat (first | exact rows_nil _ | refine rows_here hS.out (by repeat (first | exact At.here | apply At.there)) ?_))
      try simp only [Act.put, Act.eval, Array.getD_eq_getD_getElem?, List.getElem?_toArray, List.getElem?_cons_succ, List.getElem?_cons_zero, Option.getD_some, List.setIfInBounds_toArray, List.set_cons_zero, List.set_cons_succ]
      refine wpJ_one 4 (oi := { dst := none, op := Op.store 33 (Operand.tmp 4) (Operand.tmp 33), type := 0, pos := "esca.go:113", after := #[{ on := 1, ground := Ground.data }, { on := 1, ground := Ground.chain }, { on := 0, ground := Ground.phase }, { on := 1, ground := Ground.phase }, { on := 2, ground := Ground.textOnly Departure.lateStores }, { on := 3, ground := Ground.textOnly Departure.lateStores }], guard := none }) rfl (by kernel_rfl) ?_
      intro K hK
      refine sw (by rfl) ?_
      refine st_storeAll (T := 33) hS.out rfl (by rfl) (by rfl) (by exact Try.size33) (by repeat (first | exact At.here | apply At.there)) (by rfl) (by rfl) ?_; intro w9 hS9; replace hS := Lib.hid hS9; clear hS9
      refine hK _ _ (fun _ => (by repeat (first | exact rows_nil _ | refine rows_here hS.out (by repeat (first | exact At.here | apply At.there)) ?_))) ?_
      clear hK K
      replace hR := rows_of hR w9 (by repeat (first | exact rows_nil _ | refine rows_here hS.out (by repeat (first | exact At.here | apply At.there)) ?_))
      try simp only [Act.put, Act.eval, Array.getD_eq_getD_getElem?, List.getElem?_toArray, List.getElem?_cons_succ, List.getElem?_cons_zero, Option.getD_some, List.setIfInBounds_toArray, List.set_cons_zero, List.set_cons_succ]
      refine wpJ_take 5 (oi := { dst := some 5, op := Op.assign (Operand.tmp 35), type := 27, pos := "esca.go:113", after := #[{ on := 3, ground := Ground.data }, { on := 4, ground := Ground.chain }, { on := 0, ground := Ground.phase }, { on := 1, ground := Ground.phase }, { on := 2, ground := Ground.phase }, { on := 3, ground := Ground.phase }, { on := 4, ground := Ground.phase }], guard := none }) rfl (by kernel_rfl) (by kernel_rfl) (fun _ _ _ h => h) hR (y_assign (by rfl) rfl (by rfl)) (fun _ => ?_)
      try simp only [Act.put, Act.eval, Array.getD_eq_getD_getElem?, List.getElem?_toArray, List.getElem?_cons_succ, List.getElem?_cons_zero, Option.getD_some, List.setIfInBounds_toArray, List.set_cons_zero, List.set_cons_succ]
      refine wpJ_done _ (by kernel_rfl) ?_
      go_wp2_with fail
      refine bodyPost_ret (res_cell_tmp hS.out Try.results31 Try.underlying33 rfl Try.size33 (by rfl) (by repeat (first | exact At.here | apply At.there)) (by rfl) (by rfl)) rfl ?_
      exact ⟨(by rw [e0.out]; exact ⟨none, 0, some ⟨_, 0, none⟩, 1, [(⟨4, b, (mtold (Es.mk m nd mn gt par (-1) false false))⟩, .slice a2 (mtold (Es.mk m nd mn gt par (-1) false false)).length c2)], rfl, Ints.nil _, Acts.row (hS.out.row (cs' := []) (bs' := _) (by repeat (first | exact At.here | apply At.there))) (hS.out.get (intsF (.slice a2 (mtold (Es.mk m nd mn gt par (-1) false false)).length c2) (mtold (Es.mk m nd mn gt par (-1) false false))) (by simp)), rfl⟩), hS.out.isNew⟩
set_option maxHeartbeats 2000000 in
theorem last_0 (w : World) (m nd mn gt : Int) (par : List Int) (b : Int) (pv sk : Bool) (a : Option Addr) (c : Nat) (hp : Ints w (.slice a par.length c) par) (hb : 0 ≤ b) (hb2 : b ≤ 255) (hl : par.length ≤ 16) (hq : ¬ 0 < par.length) :
    Calls Try.prog 31 #[esV (Es.mk m nd mn gt par (-1) pv sk) (.slice a par.length c), .int .u8 b] w fun e w' => REA w' e (mlast (Es.mk m nd mn gt par (-1) pv sk) b) ∧ New w w' := by
  have hS : St (fun _ => False) w w [] [intsF (.slice a par.length c) par] := (St.init w).own hp (by simp)
  replace hS := Lib.hid hS
  clear hp
  have hl2 : par.length ≤ 1000 := by omega
  have d1 : decide (0 < par.length) = false := decide_eq_false hq
  have e4 : mlast (Es.mk m nd mn gt par (-1) pv true) b = (Es.go (Es.mk m nd mn gt par (-1) pv true) 0, []) := by simp [mlast]
  have e0 : mlast (Es.mk m nd mn gt par (-1) false false) b = (Es.go (Es.mk m nd mn gt par (-1) false false) 0, [⟨4, b, par⟩]) := by simp [mlast, hq]
  have e1 : mlast (Es.mk m nd mn gt par (-1) true false) b = (Es.go (Es.mk m nd mn gt par (-1) true false) 0, [⟨5, b, par⟩]) := by simp [mlast, hq]
  replace e0 := Lib.hid e0
  replace e1 := Lib.hid e1
  replace e4 := Lib.hid e4
  clear hq
  go_enter Try.func31, Try.ntmps31
  go_wp2_with (first
    | (refine wl_made hS.out ?_; intro w9 hS9; replace hS := Lib.hid hS9; clear hS9)
    | (refine wl_load1 (T := 3) hS.out (by rfl) rfl (by rfl) Try.underlying3 rfl (by repeat (first | exact At.here | apply At.there)) (by rfl) ?_)
    | (refine wl_load1 (T := 4) hS.out (by rfl) rfl (by rfl) Try.underlying4 rfl (by repeat (first | exact At.here | apply At.there)) (by rfl) ?_)
    | (refine wl_load1 (T := 22) hS.out (by rfl) rfl (by rfl) Try.underlying22 rfl (by repeat (first | exact At.here | apply At.there)) (by rfl) ?_)
    | (refine wl_loadAll (T := 33) hS.out (by rfl) rfl (by rfl) Try.underlying33 rfl Try.size33 (by repeat (first | exact At.here | apply At.there)) (by rfl) ?_)
    | (refine wl_storeAll (T := 24) hS.out (by rfl) rfl (by rfl) (by rfl) (by exact Try.size24) (by repeat (first | exact At.here | apply At.there)) (by rfl) (by rfl) ?_; intro w9 hS9; replace hS := Lib.hid hS9; clear hS9)
    | (refine wl_storeAll (T := 33) hS.out (by rfl) rfl (by rfl) (by rfl) (by exact Try.size33) (by repeat (first | exact At.here | apply At.there)) (by rfl) (by rfl) ?_; intro w9 hS9; replace hS := Lib.hid hS9; clear hS9)
    | (refine wl_store1 (v := .slice _ _ _) (T := 22) hS.out (by rfl) rfl (by rfl) (by rfl) Try.size22 (by repeat (first | exact At.here | apply At.there)) (by rfl) (by rfl) (by rfl) ?_; intro w9 hS9; simp only [List.set_cons_zero, List.set_cons_succ] at hS9; replace hS := Lib.hid hS9; clear hS9)
    | (refine wl_store1 (v := .int _ _) (T := 3) hS.out (by rfl) rfl (by rfl) (by rfl) Try.size3 (by repeat (first | exact At.here | apply At.there)) (by rfl) (by rfl) (by rfl) ?_; intro w9 hS9; simp only [List.set_cons_zero, List.set_cons_succ] at hS9; replace hS := Lib.hid hS9; clear hS9)
    | (go_at_call 17; refine (clone_ _ par a c (hS.out.get (intsF (.slice a par.length c) par) (by simp)) hl2).mono ?_; rintro e w9 ⟨⟨a', c', rfl, ho⟩, x⟩; replace hS := Lib.hid ((hS.out.call x).own ho.own (by simp)); clear x ho)
    | (go_at_call 27; refine (to_ _ (Es.mk m nd mn gt par (-1) _ _) 0 a _ c).mono ?_; rintro e w9 ⟨rfl, x⟩; replace hS := Lib.hid (hS.out.call x); clear x))
  · subst_vars
    refine bodyPost_ret (res_cell_tmp hS.out Try.results31 Try.underlying33 rfl Try.size33 (by rfl) (by repeat (first | exact At.here | apply At.there)) (by rfl) (by rfl)) rfl ?_
    exact ⟨(by rw [e4.out]; exact REA.go _ _ 0), hS.out.isNew⟩
  · subst_vars
    refine region_St2 hS.out 2 0 (fun _ => true) (by kernel_rfl) (by rfl) (by rfl) ?_
    intro w9 hR hS9; replace hS := Lib.hid hS9; clear hS9
    refine wpJ_take 0 (oi := { dst := some 32, op := Op.load 33 (Operand.tmp 2), type := 33, pos := "esca.go:113", after := #[], guard := none }) rfl (by kernel_rfl) (by kernel_rfl) (fun _ _ _ h => h) hR (y_loadAll (T := 33) (by rfl) rfl (by rfl) Try.underlying33 rfl Try.size33 (by repeat (first | exact At.here | apply At.there)) (by rfl)) (fun _ => ?_)
    try simp only [Act.put, Act.eval, Array.getD_eq_getD_getElem?, List.getElem?_toArray, List.getElem?_cons_succ, List.getElem?_cons_zero, Option.getD_some, List.setIfInBounds_toArray, List.set_cons_zero, List.set_cons_succ]
    refine wpJ_take 2 (oi := { dst := some 34, op := Op.load 24 (Operand.tmp 6), type := 24, pos := "esca.go:113", after := #[{ on := 4, ground := Ground.gcOnly Departure.lateStores }], guard := none }) rfl (by kernel_rfl) (by kernel_rfl) (fun _ _ _ h => h) hR (y_loadAll (T := 24) (by rfl) rfl (by rfl) Try.underlying24 rfl Try.size24 (by repeat (first | exact At.here | apply At.there)) (by rfl)) (fun _ => ?_)
    try simp only [Act.put, Act.eval, Array.getD_eq_getD_getElem?, List.getElem?_toArray, List.getElem?_cons_succ, List.getElem?_cons_zero, Option.getD_some, List.setIfInBounds_toArray, List.set_cons_zero, List.set_cons_succ]
    refine wpJ_two 1 3 (oi := { dst := some 33, op := Op.call { callee := Callee.value (Operand.func 27), args := #[Operand.tmp 32, Operand.const (Value.int IntKind.i64 0)], argTypes := #[33, 3] }, type := 33, pos := "esca.go:113", after := #[{ on := 0, ground := Ground.data }], guard := none }) (ok := { dst := some 35, op := Op.buildSlice 27 1 #[(0, Operand.tmp 34)], type := 27, pos := "esca.go:113", after := #[{ on := 2, ground := Ground.data }, { on := 4, ground := Ground.gcOnly Departure.lateStores }], guard := none }) rfl rfl (by kernel_rfl) ?_ ?_
    · intro K hK
      refine sw (by rfl) ?_
      refine st_fn Try.func27 (by kernel_rfl) (by kernel_rfl) rfl (by rfl) _ (to_ _ (Es.mk m nd mn gt par (-1) _ _) 0 a _ c) ?_
      rintro e w9 ⟨rfl, x⟩
      refine ⟨_, rfl, ?_⟩
      replace hS := Lib.hid (hS.out.call x); clear x
      refine hK _ _ (fun _ => (by repeat (first | exact rows_nil _ | refine rows_here hS.out (by repeat (first | exact At.here | apply At.there)) ?_))) ?_
      clear hK K
      replace hR := rows_of hR w9 (by repeat (first | exact rows_nil _ | refine rows_here hS.out (by repeat (first | exact At.here | apply At.there)) ?_))
      try simp only [Act.put, Act.eval, Array.getD_eq_getD_getElem?, List.getElem?_toArray, List.getElem?_cons_succ, List.getElem?_cons_zero, Option.getD_some, List.setIfInBounds_toArray, List.set_cons_zero, List.set_cons_succ]
      refine wpJ_two 3 4 (oi := { dst := some 35, op := Op.buildSlice 27 1 #[(0, Operand.tmp 34)], type := 27, pos := "esca.go:113", after := #[{ on := 2, ground := Ground.data }, { on := 4, ground := Ground.gcOnly Departure.lateStores }], guard := none }) (ok := { dst := none, op := Op.store 33 (Operand.tmp 4) (Operand.tmp 33), type := 0, pos := "esca.go:113", after := #[{ on := 1, ground := Ground.data }, { on := 1, ground := Ground.chain }, { on := 0, ground := Ground.phase }, { on := 1, ground := Ground.phase }, { on := 2, ground := Ground.textOnly Departure.lateStores }, { on := 3, ground := Ground.textOnly Departure.lateStores }], guard := none }) rfl rfl (by kernel_rfl) ?_ ?_
      · intro K hK
        refine sw (by rfl) ?_
        refine st_made hS.out (by go_simp; (first | done | exact ⟨rfl, rfl⟩)) ?_
        intro w9 hS9; replace hS := Lib.hid hS9; clear hS9
        refine hK _ _ (fun _ => (by repeat (first | exact rows_nil _ | refine rows_here hS.out (by repeat (first | exact At.here | apply At.there)) ?_))) ?_
        clear hK K
        replace hR := rows_of hR w9 (by repeat (first | exact rows_nil _ | refine rows_here hS.out (by repeat (first | exact At.here | apply At.there)) ?_))
        try simp only [Act.put, Act.eval, Array.getD_eq_getD_getElem?, List.getElem?_toArray, List.getElem?_cons_succ, List.getElem?_cons_zero, Option.getD_some, List.setIfInBounds_toArray, List.set_cons_zero, List.set_cons_succ]
        refine wpJ_one 4 (oi := { dst := none, op := Op.store 33 (Operand.tmp 4) (Operand.tmp 33), type := 0, pos := "esca.go:113", after := #[{ on := 1, ground := Ground.data }, { on := 1, ground := Ground.chain }, { on := 0, ground := Ground.phase }, { on := 1, ground := Ground.phase }, { on := 2, ground := Ground.textOnly Departure.lateStores }, { on := 3, ground := Ground.textOnly Departure.lateStores }], guard := none }) rfl (by kernel_rfl) ?_
        intro K hK
        refine sw (by rfl) ?_
        refine st_storeAll (T := 33) hS.out rfl (by rfl) (by rfl) (by exact Try.size33) (by repeat (first | exact At.here | apply At.there)) (by rfl) (by rfl) ?_; intro w9 hS9; replace hS := Lib.hid hS9; clear hS9
        refine hK _ _ (fun _ => (by repeat (first | exact rows_nil _ | refine rows_here hS.out (by repeat (first | exact At.here | apply At.there)) ?_))) ?_
        clear hK K
        replace hR := rows_of hR w9 (by repeat (first | exact rows_nil _ | refine rows_here hS.out (by repeat (first | exact At.here | apply At.there)) ?_))
        try simp only [Act.put, Act.eval, Array.getD_eq_getD_getElem?, List.getElem?_toArray, List.getElem?_cons_succ, List.getElem?_cons_zero, Option.getD_some, List.setIfInBounds_toArray, List.set_cons_zero, List.set_cons_succ]
        refine wpJ_take 5 (oi := { dst := some 5, op := Op.assign (Operand.tmp 35), type := 27, pos := "esca.go:113", after := #[{ on := 3, ground := Ground.data }, { on := 4, ground := Ground.chain }, { on := 0, ground := Ground.phase }, { on := 1, ground := Ground.phase }, { on := 2, ground := Ground.phase }, { on := 3, ground := Ground.phase }, { on := 4, ground := Ground.phase }], guard := none }) rfl (by kernel_rfl) (by kernel_rfl) (fun _ _ _ h => h) hR (y_assign (by rfl) rfl (by rfl)) (fun _ => ?_)
        try simp only [Act.put, Act.eval, Array.getD_eq_getD_getElem?, List.getElem?_toArray, List.getElem?_cons_succ, List.getElem?_cons_zero, Option.getD_some, List.setIfInBounds_toArray, List.set_cons_zero, List.set_cons_succ]
        refine wpJ_done _ (by kernel_rfl) ?_
        go_wp2_with fail
        refine bodyPost_ret (res_cell_tmp hS.out Try.results31 Try.underlying33 rfl Try.size33 (by rfl) (by repeat (first | exact At.here | apply At.there)) (by rfl) (by rfl)) rfl ?_
        exact ⟨(by rw [e1.out]; exact ⟨none, 0, some ⟨_, 0, none⟩, 1, [(⟨5, b, par⟩, .slice a' par.length c')], rfl, Ints.nil _, Acts.row (hS.out.row (cs' := []) (bs' := _) (by repeat (first | exact At.here | apply At.there))) (hS.out.get (intsF (.slice a' par.length c') par) (by simp)), rfl⟩), hS.out.isNew⟩
      · intro K hK
        refine sw (by rfl) ?_
        refine st_storeAll (T := 33) hS.out rfl (by rfl) (by rfl) (by exact Try.size33) (by repeat (first | exact At.here | apply At.there)) (by rfl) (by rfl) ?_; intro w9 hS9; replace hS := Lib.hid hS9; clear hS9
        refine hK _ _ (fun _ => (by repeat (first | exact rows_nil _ | refine rows_here hS.out (by repeat (first | exact At.here | apply At.there)) ?_))) ?_
        clear hK K
        replace hR := rows_of hR w9 (by repeat (first | exact rows_nil _ | refine rows_here hS.out (by repeat (first | exact At.here | apply At.there)) ?_))
        try simp only [Act.put, Act.eval, Array.getD_eq_getD_getElem?, List.getElem?_toArray, List.getElem?_cons_succ, List.getElem?_cons_zero, Option.getD_some, List.setIfInBounds_toArray, List.set_cons_zero, List.set_cons_succ]
        refine wpJ_one 3 (oi := { dst := some 35, op := Op.buildSlice 27 1 #[(0, Operand.tmp 34)], type := 27, pos := "esca.go:113", after := #[{ on := 2, ground := Ground.data }, { on := 4, ground := Ground.gcOnly Departure.lateStores }], guard := none }) rfl (by kernel_rfl) ?_
        intro K hK
        refine sw (by rfl) ?_
        refine st_made hS.out (by go_simp; (first | done | exact ⟨rfl, rfl⟩)) ?_
        intro w9 hS9; replace hS := Lib.hid hS9; clear hS9
        refine hK _ _ (fun _ => (by repeat (first | exact rows_nil _ | refine rows_here hS.out (by repeat (first | exact At.here | apply At.there)) ?_))) ?_
        clear hK K
        replace hR := rows_of hR w9 (by repeat (first | exact rows_nil _ | refine rows_here hS.out (by repeat (first | exact At.here | apply At.there)) ?_))
        try simp only [Act.put, Act.eval, Array.getD_eq_getD_getElem?, List.getElem?_toArray, List.getElem?_cons_succ, List.getElem?_cons_zero, Option.getD_some, List.setIfInBounds_toArray, List.set_cons_zero, List.set_cons_succ]
        refine wpJ_take 5 (oi := { dst := some 5, op := Op.assign (Operand.tmp 35), type := 27, pos := "esca.go:113", after := #[{ on := 3, ground := Ground.data }, { on := 4, ground := Ground.chain }, { on := 0, ground := Ground.phase }, { on := 1, ground := Ground.phase }, { on := 2, ground := Ground.phase }, { on := 3, ground := Ground.phase }, { on := 4, ground := Ground.phase }], guard := none }) rfl (by kernel_rfl) (by kernel_rfl) (fun _ _ _ h => h) hR (y_assign (by rfl) rfl (by rfl)) (fun _ => ?_)
        try simp only [Act.put, Act.eval, Array.getD_eq_getD_getElem?, List.getElem?_toArray, List.getElem?_cons_succ, List.getElem?_cons_zero, Option.getD_some, List.setIfInBounds_toArray, List.set_cons_zero, List.set_cons_succ]
        refine wpJ_done _ (by kernel_rfl) ?_
        go_wp2_with fail
        refine bodyPost_ret (res_cell_tmp hS.out Try.results31 Try.underlying33 rfl Try.size33 (by rfl) (by repeat (first | exact At.here | apply At.there)) (by rfl) (by rfl)) rfl ?_
        exact ⟨(by rw [e1.out]; exact ⟨none, 0, some ⟨_, 0, none⟩, 1, [(⟨5, b, par⟩, .slice a' par.length c')], rfl, Ints.nil _, Acts.row (hS.out.row (cs' := []) (bs' := _) (by repeat (first | exact At.here | apply At.there))) (hS.out.get (intsF (.slice a' par.length c') par) (by simp)), rfl⟩), hS.out.isNew⟩
    · intro K hK
      refine sw (by rfl) ?_
      refine st_made hS.out (by go_simp; (first | done | exact ⟨rfl, rfl⟩)) ?_
      intro w9 hS9; replace hS := Lib.hid hS9; clear hS9
      refine hK _ _ (fun _ => (by repeat (first | exact rows_nil _ | refine rows_here hS.out (by repeat (first | exact At.here | apply At.there)) ?_))) ?_
      clear hK K
      replace hR := rows_of hR w9 (by repeat (first | exact rows_nil _ | refine rows_here hS.out (by repeat (first | exact At.here | apply At.there)) ?_))
      try simp only [Act.put, Act.eval, Array.getD_eq_getD_getElem?, List.getElem?_toArray, List.getElem?_cons_succ, List.getElem?_cons_zero, Option.getD_some, List.setIfInBounds_toArray, List.set_cons_zero, List.set_cons_succ]
      refine wpJ_one 1 (oi := { dst := some 33, op := Op.call { callee := Callee.value (Operand.func 27), args := #[Operand.tmp 32, Operand.const (Value.int IntKind.i64 0)], argTypes := #[33, 3] }, type := 33, pos := "esca.go:113", after := #[{ on := 0, ground := Ground.data }], guard := none }) rfl (by kernel_rfl) ?_
      intro K hK
      refine sw (by rfl) ?_
      refine st_fn Try.func27 (by kernel_rfl) (by kernel_rfl) rfl (by rfl) _ (to_ _ (Es.mk m nd mn gt par (-1) _ _) 0 a _ c) ?_
      rintro e w9 ⟨rfl, x⟩
      refine ⟨_, rfl, ?_⟩
      replace hS := Lib.hid (hS.out.call x); clear x
      refine hK _ _ (fun _ => (by repeat (first | exact rows_nil _ | refine rows_here hS.out (by repeat (first | exact At.here | apply At.there)) ?_))) ?_
      clear hK K
      replace hR := rows_of hR w9 (by repeat (first | exact rows_nil _ | refine rows_here hS.out (by repeat (first | exact At.here | apply At.there)) ?_))
      try simp only [Act.put, Act.eval, Array.getD_eq_getD_getElem?, List.getElem?_toArray, List.getElem?_cons_succ, List.getElem?_cons_zero, Option.getD_some, List.setIfInBounds_toArray, List.set_cons_zero, List.set_cons_succ]
      refine wpJ_one 4 (oi := { dst := none, op := Op.store 33 (Operand.tmp 4) (Operand.tmp 33), type := 0, pos := "esca.go:113", after := #[{ on := 1, ground := Ground.data }, { on := 1, ground := Ground.chain }, { on := 0, ground := Ground.phase }, { on := 1, ground := Ground.phase }, { on := 2, ground := Ground.textOnly Departure.lateStores }, { on := 3, ground := Ground.textOnly Departure.lateStores }], guard := none }) rfl (by kernel_rfl) ?_
      intro K hK
      refine sw (by rfl) ?_
      refine st_storeAll (T := 33) hS.out rfl (by rfl) (by rfl) (by exact Try.size33) (by repeat (first | exact At.here | apply At.there)) (by rfl) (by rfl) ?_; intro w9 hS9; replace hS := Lib.hid hS9; clear hS9
      refine hK _ _ (fun _ => (by repeat (first | exact rows_nil _ | refine rows_here hS.out (by repeat (first | exact At.here | apply At.there)) ?_))) ?_
      clear hK K
      replace hR := rows_of hR w9 (by repeat (first | exact rows_nil _ | refine rows_here hS.out (by repeat (first | exact At.here | apply At.there)) ?_))
      try simp only [Act.put, Act.eval, Array.getD_eq_getD_getElem?, List.getElem?_toArray, List.getElem?_cons_succ, List.getElem?_cons_zero, Option.getD_some, List.setIfInBounds_toArray, List.set_cons_zero, List.set_cons_succ]
      refine wpJ_take 5 (oi := { dst := some 5, op := Op.assign (Operand.tmp 35), type := 27, pos := "esca.go:113", after := #[{ on := 3, ground := Ground.data }, { on := 4, ground := Ground.chain }, { on := 0, ground := Ground.phase }, { on := 1, ground := Ground.phase }, { on := 2, ground := Ground.phase }, { on := 3, ground := Ground.phase }, { on := 4, ground := Ground.phase }], guard := none }) rfl (by kernel_rfl) (by kernel_rfl) (fun _ _ _ h => h) hR (y_assign (by rfl) rfl (by rfl)) (fun _ => ?_)
      try simp only [Act.put, Act.eval, Array.getD_eq_getD_getElem?, List.getElem?_toArray, List.getElem?_cons_succ, List.getElem?_cons_zero, Option.getD_some, List.setIfInBounds_toArray, List.set_cons_zero, List.set_cons_succ]
      refine wpJ_done _ (by kernel_rfl) ?_
      go_wp2_with fail
      refine bodyPost_ret (res_cell_tmp hS.out Try.results31 Try.underlying33 rfl Try.size33 (by rfl) (by repeat (first | exact At.here | apply At.there)) (by rfl) (by rfl)) rfl ?_
      exact ⟨(by rw [e1.out]; exact ⟨none, 0, some ⟨_, 0, none⟩, 1, [(⟨5, b, par⟩, .slice a' par.length c')], rfl, Ints.nil _, Acts.row (hS.out.row (cs' := []) (bs' := _) (by repeat (first | exact At.here | apply At.there))) (hS.out.get (intsF (.slice a' par.length c') par) (by simp)), rfl⟩), hS.out.isNew⟩
  · subst_vars
    refine bodyPost_ret (res_cell_tmp hS.out Try.results31 Try.underlying33 rfl Try.size33 (by rfl) (by repeat (first | exact At.here | apply At.there)) (by rfl) (by rfl)) rfl ?_
    exact ⟨(by rw [e4.out]; exact REA.go _ _ 0), hS.out.isNew⟩
  · subst_vars
    refine region_St2 hS.out 2 0 (fun _ => true) (by kernel_rfl) (by rfl) (by rfl) ?_
    intro w9 hR hS9; replace hS := Lib.hid hS9; clear hS9
    refine wpJ_take 0 (oi := { dst := some 32, op := Op.load 33 (Operand.tmp 2), type := 33, pos := "esca.go:113", after := #[], guard := none }) rfl (by kernel_rfl) (by kernel_rfl) (fun _ _ _ h => h) hR (y_loadAll (T := 33) (by rfl) rfl (by rfl) Try.underlying33 rfl Try.size33 (by repeat (first | exact At.here | apply At.there)) (by rfl)) (fun _ => ?_)
    try simp only [Act.put, Act.eval, Array.getD_eq_getD_getElem?, List.getElem?_toArray, List.getElem?_cons_succ, List.getElem?_cons_zero, Option.getD_some, List.setIfInBounds_toArray, List.set_cons_zero, List.set_cons_succ]
    refine wpJ_take 2 (oi := { dst := some 34, op := Op.load 24 (Operand.tmp 6), type := 24, pos := "esca.go:113", after := #[{ on := 4, ground := Ground.gcOnly Departure.lateStores }], guard := none }) rfl (by kernel_rfl) (by kernel_rfl) (fun _ _ _ h => h) hR (y_loadAll (T := 24) (by rfl) rfl (by rfl) Try.underlying24 rfl Try.size24 (by repeat (first | exact At.here | apply At.there)) (by rfl)) (fun _ => ?_)
    try simp only [Act.put, Act.eval, Array.getD_eq_getD_getElem?, List.getElem?_toArray, List.getElem?_cons_succ, List.getElem?_cons_zero, Option.getD_some, List.setIfInBounds_toArray, List.set_cons_zero, List.set_cons_succ]
    refine wpJ_two 1 3 (oi := { dst := some 33, op := Op.call { callee := Callee.value (Operand.func 27), args := #[Operand.tmp 32, Operand.const (Value.int IntKind.i64 0)], argTypes := #[33, 3] }, type := 33, pos := "esca.go:113", after := #[{ on := 0, ground := Ground.data }], guard := none }) (ok := { dst := some 35, op := Op.buildSlice 27 1 #[(0, Operand.tmp 34)], type := 27, pos := "esca.go:113", after := #[{ on := 2, ground := Ground.data }, { on := 4, ground := Ground.gcOnly Departure.lateStores }], guard := none }) rfl rfl (by kernel_rfl) ?_ ?_
    · intro K hK
      refine sw (by rfl) ?_
      refine st_fn Try.func27 (by kernel_rfl) (by kernel_rfl) rfl (by rfl) _ (to_ _ (Es.mk m nd mn gt par (-1) _ _) 0 a _ c) ?_
      rintro e w9 ⟨rfl, x⟩
      refine ⟨_, rfl, ?_⟩
      replace hS := Lib.hid (hS.out.call x); clear x
      refine hK _ _ (fun _ => (by repeat (first | exact rows_nil _ | refine rows_here hS.out (by repeat (first | exact At.here | apply At.there)) ?_))) ?_
      clear hK K
      replace hR := rows_of hR w9 (by repeat (first | exact rows_nil _ | refine rows_here hS.out (by repeat (first | exact At.here | apply At.there)) ?_))
      try simp only [Act.put, Act.eval, Array.getD_eq_getD_getElem?, List.getElem?_toArray, List.getElem?_cons_succ, List.getElem?_cons_zero, Option.getD_some, List.setIfInBounds_toArray, List.set_cons_zero, List.set_cons_succ]
      refine wpJ_two 3 4 (oi := { dst := some 35, op := Op.buildSlice 27 1 #[(0, Operand.tmp 34)], type := 27, pos := "esca.go:113", after := #[{ on := 2, ground := Ground.data }, { on := 4, ground := Ground.gcOnly Departure.lateStores }], guard := none }) (ok := { dst := none, op := Op.store 33 (Operand.tmp 4) (Operand.tmp 33), type := 0, pos := "esca.go:113", after := #[{ on := 1, ground := Ground.data }, { on := 1, ground := Ground.chain }, { on := 0, ground := Ground.phase }, { on := 1, ground := Ground.phase }, { on := 2, ground := Ground.textOnly Departure.lateStores }, { on := 3, ground := Ground.textOnly Departure.lateStores }], guard := none }) rfl rfl (by kernel_rfl) ?_ ?_
      · intro K hK
        refine sw (by rfl) ?_
        refine st_made hS.out (by go_simp; (first | done | exact ⟨rfl, rfl⟩)) ?_
        intro w9 hS9; replace hS := Lib.hid hS9; clear hS9
        refine hK _ _ (fun _ => (by repeat (first | exact rows_nil _ | refine rows_here hS.out (by repeat (first | exact At.here | apply At.there)) ?_))) ?_
        clear hK K
        replace hR := rows_of hR w9 (by repeat (first | exact rows_nil _ | refine rows_here hS.out (by repeat (first | exact At.here | apply At.there)) ?_))
        try simp only [Act.put, Act.eval, Array.getD_eq_getD_getElem?, List.getElem?_toArray, List.getElem?_cons_succ, List.getElem?_cons_zero, Option.getD_some, List.setIfInBounds_toArray, List.set_cons_zero, List.set_cons_succ]
        refine wpJ_one 4 (oi := { dst := none, op := Op.store 33 (Operand.tmp 4) (Operand.tmp 33), type := 0, pos := "esca.go:113", after := #[{ on := 1, ground := Ground.data }, { on := 1, ground := Ground.chain }, { on := 0, ground := Ground.phase }, { on := 1, ground := Ground.phase }, { on := 2, ground := Ground.textOnly Departure.lateStores }, { on := 3, ground := Ground.textOnly Departure.lateStores }], guard := none }) rfl (by kernel_rfl) ?_
        intro K hK
        refine sw (by rfl) ?_
        refine st_storeAll (T := 33) hS.out rfl (by rfl) (by rfl) (by exact Try.size33) (by repeat (first | exact At.here | apply At.there)) (by rfl) (by rfl) ?_; intro w9 hS9; replace hS := Lib.hid hS9; clear hS9
        refine hK _ _ (fun _ => (by repeat (first | exact rows_nil _ | refine rows_here hS.out (by repeat (first | exact At.here | apply At.there)) ?_))) ?_
        clear hK K
        replace hR := rows_of hR w9 (by repeat (first | exact rows_nil _ | refine rows_here hS.out (by repeat (first | exact At.here | apply At.there)) ?_))
        try simp only [Act.put, Act.eval, Array.getD_eq_getD_getElem?, List.getElem?_toArray, List.getElem?_cons_succ, List.getElem?_cons_zero, Option.getD_some, List.setIfInBounds_toArray, List.set_cons_zero, List.set_cons_succ]
        refine wpJ_take 5 (oi := { dst := some 5, op := Op.assign (Operand.tmp 35), type := 27, pos := "esca.go:113", after := #[{ on := 3, ground := Ground.data }, { on := 4, ground := Ground.chain }, { on := 0, ground := Ground.phase }, { on := 1, ground := Ground.phase }, { on := 2, ground := Ground.phase }, { on := 3, ground := Ground.phase }, { on := 4, ground := Ground.phase }], guard := none }) rfl (by kernel_rfl) (by kernel_rfl) (fun _ _ _ h => h) hR (y_assign (by rfl) rfl (by rfl)) (fun _ => ?_)
        try simp only [Act.put, Act.eval, Array.getD_eq_getD_getElem?, List.getElem?_toArray, List.getElem?_cons_succ, List.getElem?_cons_zero, Option.getD_some, List.setIfInBounds_toArray, List.set_cons_zero, List.set_cons_succ]
        refine wpJ_done _ (by kernel_rfl) ?_
        go_wp2_with fail
        refine bodyPost_ret (res_cell_tmp hS.out Try.results31 Try.underlying33 rfl Try.size33 (by rfl) (by repeat (first | exact At.here | apply At.there)) (by rfl) (by rfl)) rfl ?_
        exact ⟨(by rw [e0.out]; exact ⟨none, 0, some ⟨_, 0, none⟩, 1, [(⟨4, b, par⟩, .slice a' par.length c')], rfl, Ints.nil _, Acts.row (hS.out.row (cs' := []) (bs' := _) (by repeat (first | exact At.here | apply At.there))) (hS.out.get (intsF (.slice a' par.length c') par) (by simp)), rfl⟩), hS.out.isNew⟩
      · intro K hK
        refine sw (by rfl) ?_
        refine st_storeAll (T := 33) hS.out rfl (by rfl) (by rfl) (by exact Try.size33) (by repeat (first | exact At.here | apply At.there)) (by rfl) (by rfl) ?_; intro w9 hS9; replace hS := Lib.hid hS9; clear hS9
        refine hK _ _ (fun _ => (by repeat (first | exact rows_nil _ | refine rows_here hS.out (by repeat (first | exact At.here | apply At.there)) ?_))) ?_
        clear hK K
        replace hR := rows_of hR w9 (by repeat (first | exact rows_nil _ | refine rows_here hS.out (by repeat (first | exact At.here | apply At.there)) ?_))
        try simp only [Act.put, Act.eval, Array.getD_eq_getD_getElem?, List.getElem?_toArray, List.getElem?_cons_succ, List.getElem?_cons_zero, Option.getD_some, List.setIfInBounds_toArray, List.set_cons_zero, List.set_cons_succ]
        refine wpJ_one 3 (oi := { dst := some 35, op := Op.buildSlice 27 1 #[(0, Operand.tmp 34)], type := 27, pos := "esca.go:113", after := #[{ on := 2, ground := Ground.data }, { on := 4, ground := Ground.gcOnly Departure.lateStores }], guard := none }) rfl (by kernel_rfl) ?_
        intro K hK
        refine sw (by rfl) ?_
        refine st_made hS.out (by go_simp; (first | done | exact ⟨rfl, rfl⟩)) ?_
        intro w9 hS9; replace hS := Lib.hid hS9; clear hS9
        refine hK _ _ (fun _ => (by repeat (first | exact rows_nil _ | refine rows_here hS.out (by repeat (first | exact At.here | apply At.there)) ?_))) ?_
        clear hK K
        replace hR := rows_of hR w9 (by repeat (first | exact rows_nil _ | refine rows_here hS.out (by repeat (first | exact At.here | apply At.there)) ?_))
        try simp only [Act.put, Act.eval, Array.getD_eq_getD_getElem?, List.getElem?_toArray, List.getElem?_cons_succ, List.getElem?_cons_zero, Option.getD_some, List.setIfInBounds_toArray, List.set_cons_zero, List.set_cons_succ]
        refine wpJ_take 5 (oi := { dst := some 5, op := Op.assign (Operand.tmp 35), type := 27, pos := "esca.go:113", after := #[{ on := 3, ground := Ground.data }, { on := 4, ground := Ground.chain }, { on := 0, ground := Ground.phase }, { on := 1, ground := Ground.phase }, { on := 2, ground := Ground.phase }, { on := 3, ground := Ground.phase }, { on := 4, ground := Ground.phase }], guard := none }) rfl (by kernel_rfl) (by kernel_rfl) (fun _ _ _ h => h) hR (y_assign (by rfl) rfl (by rfl)) (fun _ => ?_)
        try simp only [Act.put, Act.eval, Array.getD_eq_getD_getElem?, List.getElem?_toArray, List.getElem?_cons_succ, List.getElem?_cons_zero, Option.getD_some, List.setIfInBounds_toArray, List.set_cons_zero, List.set_cons_succ]
        refine wpJ_done _ (by kernel_rfl) ?_
        go_wp2_with fail
        refine bodyPost_ret (res_cell_tmp hS.out Try.results31 Try.underlying33 rfl Try.size33 (by rfl) (by repeat (first | exact At.here | apply At.there)) (by rfl) (by rfl)) rfl ?_
        exact ⟨(by rw [e0.out]; exact ⟨none, 0, some ⟨_, 0, none⟩, 1, [(⟨4, b, par⟩, .slice a' par.length c')], rfl, Ints.nil _, Acts.row (hS.out.row (cs' := []) (bs' := _) (by repeat (first | exact At.here | apply At.there))) (hS.out.get (intsF (.slice a' par.length c') par) (by simp)), rfl⟩), hS.out.isNew⟩
    · intro K hK
      refine sw (by rfl) ?_
      refine st_made hS.out (by go_simp; (first | done | exact ⟨rfl, rfl⟩)) ?_
      intro w9 hS9; replace hS := Lib.hid hS9; clear hS9
      refine hK _ _ (fun _ => (by repeat (first | exact rows_nil _ | refine rows_here hS.out (by repeat (first | exact At.here | apply At.there)) ?_))) ?_
      clear hK K
      replace hR := rows_of hR w9 (by repeat (first | exact rows_nil _ | refine rows_here hS.out (by repeat (first | exact At.here | apply At.there)) ?_))
      try simp only [Act.put, Act.eval, Array.getD_eq_getD_getElem?, List.getElem?_toArray, List.getElem?_cons_succ, List.getElem?_cons_zero, Option.getD_some, List.setIfInBounds_toArray, List.set_cons_zero, List.set_cons_succ]
      refine wpJ_one 1 (oi := { dst := some 33, op := Op.call { callee := Callee.value (Operand.func 27), args := #[Operand.tmp 32, Operand.const (Value.int IntKind.i64 0)], argTypes := #[33, 3] }, type := 33, pos := "esca.go:113", after := #[{ on := 0, ground := Ground.data }], guard := none }) rfl (by kernel_rfl) ?_
      intro K hK
      refine sw (by rfl) ?_
      refine st_fn Try.func27 (by kernel_rfl) (by kernel_rfl) rfl (by rfl) _ (to_ _ (Es.mk m nd mn gt par (-1) _ _) 0 a _ c) ?_
      rintro e w9 ⟨rfl, x⟩
      refine ⟨_, rfl, ?_⟩
      replace hS := Lib.hid (hS.out.call x); clear x
      refine hK _ _ (fun _ => (by repeat (first | exact rows_nil _ | refine rows_here hS.out (by repeat (first | exact At.here | apply At.there)) ?_))) ?_
      clear hK K
      replace hR := rows_of hR w9 (by repeat (first | exact rows_nil _ | refine rows_here hS.out (by repeat (first | exact At.here | apply At.there)) ?_))
      try simp only [Act.put, Act.eval, Array.getD_eq_getD_getElem?, List.getElem?_toArray, List.getElem?_cons_succ, List.getElem?_cons_zero, Option.getD_some, List.setIfInBounds_toArray, List.set_cons_zero, List.set_cons_succ]
      refine wpJ_one 4 (oi := { dst := none, op := Op.store 33 (Operand.tmp 4) (Operand.tmp 33), type := 0, pos := "esca.go:113", after := #[{ on := 1, ground := Ground.data }, { on := 1, ground := Ground.chain }, { on := 0, ground := Ground.phase }, { on := 1, ground := Ground.phase }, { on := 2, ground := Ground.textOnly Departure.lateStores }, { on := 3, ground := Ground.textOnly Departure.lateStores }], guard := none }) rfl (by kernel_rfl) ?_
      intro K hK
      refine sw (by rfl) ?_
      refine st_storeAll (T := 33) hS.out rfl (by rfl) (by rfl) (by exact Try.size33) (by repeat (first | exact At.here | apply At.there)) (by rfl) (by rfl) ?_; intro w9 hS9; replace hS := Lib.hid hS9; clear hS9
      refine hK _ _ (fun _ => (by repeat (first | exact rows_nil _ | refine rows_here hS.out (by repeat (first | exact At.here | apply At.there)) ?_))) ?_
      clear hK K
      replace hR := rows_of hR w9 (by repeat (first | exact rows_nil _ | refine rows_here hS.out (by repeat (first | exact At.here | apply At.there)) ?_))
      try simp only [Act.put, Act.eval, Array.getD_eq_getD_getElem?, List.getElem?_toArray, List.getElem?_cons_succ, List.getElem?_cons_zero, Option.getD_some, List.setIfInBounds_toArray, List.set_cons_zero, List.set_cons_succ]
      refine wpJ_take 5 (oi := { dst := some 5, op := Op.assign (Operand.tmp 35), type := 27, pos := "esca.go:113", after := #[{ on := 3, ground := Ground.data }, { on := 4, ground := Ground.chain }, { on := 0, ground := Ground.phase }, { on := 1, ground := Ground.phase }, { on := 2, ground := Ground.phase }, { on := 3, ground := Ground.phase }, { on := 4, ground := Ground.phase }], guard := none }) rfl (by kernel_rfl) (by kernel_rfl) (fun _ _ _ h => h) hR (y_assign (by rfl) rfl (by rfl)) (fun _ => ?_)
      try simp only [Act.put, Act.eval, Array.getD_eq_getD_getElem?, List.getElem?_toArray, List.getElem?_cons_succ, List.getElem?_cons_zero, Option.getD_some, List.setIfInBounds_toArray, List.set_cons_zero, List.set_cons_succ]
      refine wpJ_done _ (by kernel_rfl) ?_
      go_wp2_with fail
      refine bodyPost_ret (res_cell_tmp hS.out Try.results31 Try.underlying33 rfl Try.size33 (by rfl) (by repeat (first | exact At.here | apply At.there)) (by rfl) (by rfl)) rfl ?_
      exact ⟨(by rw [e0.out]; exact ⟨none, 0, some ⟨_, 0, none⟩, 1, [(⟨4, b, par⟩, .slice a' par.length c')], rfl, Ints.nil _, Acts.row (hS.out.row (cs' := []) (bs' := _) (by repeat (first | exact At.here | apply At.there))) (hS.out.get (intsF (.slice a' par.length c') par) (by simp)), rfl⟩), hS.out.isNew⟩
theorem last_ (w : World) (s : Es) (b : Int) (a : Option Addr) (c : Nat) (hp : Ints w (.slice a s.par.length c) s.par) (hb : 0 ≤ b) (hb2 : b ≤ 255) (hl : s.par.length ≤ 16) :
    Calls Try.prog 31 #[esV s (.slice a s.par.length c), .int .u8 b] w fun e w' => REA w' e (mlast s b) ∧ New w w' := by
  obtain ⟨m, nd, mn, gt, par, nu, pv, sk⟩ := s
  by_cases hn : nu = -1
  · subst hn
    by_cases hq : 0 < par.length
    · exact last_l w m nd mn gt par b pv sk a c hp hb hb2 hl hq
    · exact last_0 w m nd mn gt par b pv sk a c hp hb hb2 hl hq
  · exact last_n w m nd mn gt par nu b pv sk a c hp hb hb2 hl hn
end Go.Proofs.Ytbcpbndhkainnaa
