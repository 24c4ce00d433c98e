/- An item's bytes, by the document: the law's bytes. -/
import Derived.Test.YtnkgbigjpihfeaaKg
import Derived.Deep.RegionHeld3
import Derived.Deep.AppendLies
import Derived.Laws.OwnMore
set_option linter.unusedVariables false
set_option linter.unusedSimpArgs false
namespace Go.Proofs.Ytnkgbigjpihfeaa.Kd
open Go.RowKit Go.Proofs.Ytnkgbigjpihfeaa.Lib

/-- What the document's bytes of an item leave. -/
def bytesPost (t : It) (w : World) (e : Ending) (w' : World) : Prop :=
  ∃ (a : Option Addr) (c : Nat) (L : List Int) (g : Bool), e = .returned (.tuple #[.slice a L.length c, .bool g]) ∧ IntsAt w' .u8 a L.length (gtD L) ∧ (a = none → L.length = 0 ∧ c = 0) ∧ L.length ≤ t.n + 8 ∧ (g = true ↔ itGood t) ∧ (g = true → L = itE t) ∧ Below w.heap.size w w'

/-- Bytes appended to an own row, at a step of a region that draws. -/
theorem run_append_bytes {w : World} (ty : TypeId) (base : Nat) (v : Value) (l : List Int) (hown : w.ownsRow base 5 1 v l.length (bts l))
    (ad : Option Addr) (m c : Nat) (F : Nat → Int) (hi : IntsAt w .u8 ad m F) (hn : ad = none → m = 0 ∧ c = 0) (hb : l.length + m ≤ 1000010) (hbase : base ≤ w.heap.size) :
    ∃ v' w', (Builtin.append_ #[22, 22] ty #[v, .slice ad m c]).run Try.prog w = .ok v' w' ∧ w'.ownsRow base 5 1 v' (l ++ lof m F).length (bts (l ++ lof m F)) ∧ w.grownBy w' v.ownBlock := by
  obtain ⟨i5, hi5, hz0, hz1, hz2⟩ := info_parts info5
  cases ad with
  | none =>
    obtain ⟨rfl, rfl⟩ := hn rfl
    exact ⟨v, w, run_append_owned_none w base 22 ty 5 i5 1 Try.underlying22 hi5 v l.length (bts l) hown, by simpa [lof] using hown, ⟨rfl, rfl, rfl, Nat.le_refl _, fun _ _ _ => rfl⟩⟩
  | some p =>
    have hcl : ∀ j u, (bts (lof m F))[j]? = some u → w.cell? (p.add j) = some u := by
      intro j u hu
      have hj : j < m := by
        have := (List.getElem?_eq_some_iff.1 hu).1
        simpa [bts, lof] using this
      obtain ⟨b, o, e, hb, hc⟩ := hi.2 (by omega)
      cases e
      have hadd : (⟨b, o, none⟩ : Addr).add j = ⟨b, o + j, none⟩ := by unfold Addr.add; split <;> simp_all
      rw [hadd, hc j hj]
      simp [bts, lof, hj] at hu
      rw [← hu]
    have h1c : ∀ u ∈ bts (lof m F), u.oneCell' = true := by
      intro u hu
      simp only [bts, List.mem_map] at hu
      obtain ⟨z, _, rfl⟩ := hu
      rfl
    have hlb : (bts (lof m F)).length = m * 1 := by simp [bts, lof]
    obtain ⟨v', w', hr, h2, h3, h4, h5⟩ := run_append_own_at (P := Try.prog) w base 22 ty 5 i5 (.int .u8 0) 1 1 Try.underlying22 hi5 hz0 hz1 hz2 rfl (by decide) v l.length (bts l) hown p m c (bts (lof m F)) hlb hcl h1c (by unfold maxLen; omega) (by omega) hbase
    have hb2 : bts l ++ bts (lof m F) = bts (l ++ lof m F) := by simp [bts]
    exact ⟨v', w', hr, by rw [← hb2, List.length_append, lof_len]; exact h2, h3⟩

theorem step_append_bytes {w : World} {ops : Array Oper} {o : Oper} {a : Act} {K : Act → World → Prop} {Q : Exit → Act → World → Prop} {E : Prop} (hgd : o.guard = none) (s x : Operand)
    (ho : o.op = .call { callee := .builtin .append, args := #[s, x], argTypes := #[22, 22] }) (base : Nat) (v : Value) (l : List Int) (hs : a.eval s = v) (hown : w.ownsRow base 5 1 v l.length (bts l))
    (ad : Option Addr) (m c : Nat) (F : Nat → Int) (hx : a.eval x = .slice ad m c) (hi : IntsAt w .u8 ad m F) (hn : ad = none → m = 0 ∧ c = 0) (hb : l.length + m ≤ 1000010) (hbase : base ≤ w.heap.size)
    (h : ∀ v' w', w'.ownsRow base 5 1 v' (l ++ lof m F).length (bts (l ++ lof m F)) → w.grownBy w' v.ownBlock → K (a.put o.dst v') w') :
    if Region.wanted o (yielded ops a.tmps) = true then Oper.wp Try.prog o a w K Q else E := by
  have hw : Region.wanted o (yielded ops a.tmps) = true := by simp [Region.wanted, hgd]
  rw [if_pos hw]
  obtain ⟨v', w', hr, h2, h3⟩ := run_append_bytes o.type base v l hown ad m c F hi hn hb hbase
  unfold Oper.wp execOp
  simp only [ho, resolve, invoke, builtin, Sem.run_bind, Sem.run_pure, Result.andThen_ok, List.map_toArray, List.map_cons, List.map_nil, hs, hx, hr]
  exact h v' w' h2 h3

theorem own_at {w : World} {base : Nat} {v : Value} {l : List Int} (h : w.ownsRow base 5 1 v l.length (bts l)) (hl : l.length ≤ 10000000) : ∃ a c, v = .slice a l.length c ∧ IntsAt w .u8 a l.length (gtD l) ∧ (a = none → l.length = 0 ∧ c = 0) := by
  rcases h.2 with ⟨rfl, h0⟩ | ⟨g, cap, cur, rfl, hb, hg, hnc, hcm, hcs, ht⟩
  · exact ⟨none, 0, by rw [h0], ⟨by omega, fun hp => absurd hp (by omega)⟩, fun _ => ⟨h0, rfl⟩⟩
  · refine ⟨_, cap, rfl, ⟨by omega, fun hp => ⟨g, 0, rfl, (Array.getElem?_eq_some_iff.1 hg).1, fun j hj => ?_⟩⟩, fun e => by cases e⟩
    have := h.cellAt j (by omega)
    simpa [bts, gtD, List.getD, hj] using this

theorem bytesPost_own {t : It} {w w' : World} {v : Value} {l : List Int} {g : Bool} {base : Nat} (h : w'.ownsRow base 5 1 v l.length (bts l)) (hl : l.length ≤ t.n + 8) (hn : t.n ≤ 1000000) (hg : g = true ↔ itGood t) (hE : g = true → l = itE t) (hb : Below w.heap.size w w') :
    bytesPost t w (.returned (.tuple #[v, .bool g])) w' := by
  obtain ⟨a, c, rfl, h1, h2⟩ := own_at h (by omega)
  exact ⟨a, c, l, g, rfl, h1, h2, hl, hg, hE, hb⟩

set_option maxRecDepth 100000 in
set_option maxHeartbeats 6400000 in
theorem bytes_any {w : World} {t : It} (ht : ItOk w t) (hn : t.n ≤ 1000000) : Calls Try.prog 27 #[itV t] w fun e w' => bytesPost t w e w' := by
  have hv0 := ht.v0
  have hv1 := ht.v1
  have hl0 := ht.l0
  have hl1 := ht.l1
  have hk0 := ht.k0
  have hk1 := ht.k1
  replace ht := Lib.hid ht
  obtain ⟨tk, tv, tl, tf, ta, tn, tc, tF⟩ := t
  unfold itV
  simp only at *
  obtain ⟨wx, hwx⟩ : ∃ wx, w.alloc (.cells #[.int .u8 tk, .int .i64 tv, .int .i64 tl, .bool tf, .slice ta tn tc] 33) = wx := ⟨_, rfl⟩
  have hxb : Below w.heap.size w wx := by rw [← hwx]; exact (Below.refl _ _).alloc (Nat.le_refl _) _
  have hxs : wx.heap.size = w.heap.size + 1 := by rw [← hwx]; simp
  have hxn : wx.heap[w.heap.size]? = some (.cells #[.int .u8 tk, .int .i64 tv, .int .i64 tl, .bool tf, .slice ta tn tc] 33 (0, 0)) := by rw [← hwx]; exact heap_alloc_new _ _
  have KX : Hid (∀ w', Below wx.heap.size wx w' → w'.heap[w.heap.size]? = some (.cells #[.int .u8 tk, .int .i64 tv, .int .i64 tl, .bool tf, .slice ta tn tc] 33 (0, 0))) := Lib.hid (fun w' hg => (hg.block w.heap.size (by omega)).trans hxn)
  have KB : Hid (∀ w', Below wx.heap.size wx w' → Below w.heap.size w w') := Lib.hid (fun w' hg => hxb.trans (hg.mono (by omega)))
  have hbI : Hid (∀ w', Below wx.heap.size wx w' → IntsAt w' .u8 ta tn tF) := Lib.hid (fun w' hg => ht.out.ints.below (KB.out w' hg))
  replace hxn := Lib.hid hxn
  replace hxb := Lib.hid hxb
  replace hxs := Lib.hid hxs
  replace hwx := Lib.hid hwx
  by_cases e0 : tk = 0
  · subst e0
    by_cases hv : 0 ≤ tv
    · have hvh := Lib.hid hv
      by_cases hv2 : tv < 256
      · have C := Lib.hid (refBytes wx.drew (tv % 18446744073709551616) (by omega) 1 (by omega))
        have KC : Hid (∀ w', Below wx.heap.size wx w' → w'.cell? ⟨w.heap.size, 1, none⟩ = some (.int .i64 tv)) := Lib.hid (fun w' hg => by simp [World.cell?, KX.out w' hg])
        go_enter Try.func27, Try.ntmps27
        go_wp2_with fail
        rw [hwx.out]
        have hw8 : IntKind.i64.wrap 8 = 8 := by decide
        have hw16 : IntKind.i64.wrap 16 = 16 := by decide
        have hw32 : IntKind.i64.wrap 32 = 32 := by decide
        have hwa256 : IntKind.i64.wrap 256 = 256 := by decide
        have hwa65536 : IntKind.i64.wrap 65536 = 65536 := by decide
        have hwa4294967296 : IntKind.i64.wrap 4294967296 = 4294967296 := by decide
        have hvx : decide (0 ≤ tv) = true := decide_eq_true (by have := hvh.out; omega)
        go_region_held3 (fun w' => w'.cell? ⟨w.heap.size, 1, none⟩ = some (.int .i64 tv))
          (first
            | exact KC.out _ (Below.refl _ _).drew
            | exact KC.out _ hb5
            | go_keep)
          (first
            | (go_at_call 68; refine C.out.mono ?_; rintro e w4 ⟨v4, rfl, hown, hb4⟩; have hb5 : Below wx.heap.size wx w4 := Below.trans (Below.drew (Below.refl _ _)) hb4; replace hown := Lib.hid hown))
        go_wp2_with fail
        go_ret2
        refine bytesPost_own (t := ⟨0, tv, tl, tf, ta, tn, tc, tF⟩) hown.out (by rw [leB_len]; simp only; omega) hn ?_ ?_ (KB.out _ hb5)
        · simp [itGood]
          try omega
        · intro h
          first
            | (rw [show tv % 18446744073709551616 = tv from by omega]; simp [itE]; done)
            | (exfalso; simp at h; omega)
            | cases h
      · have C := Lib.hid (refBytes wx.drew (tv % 18446744073709551616) (by omega) 1 (by omega))
        have KC : Hid (∀ w', Below wx.heap.size wx w' → w'.cell? ⟨w.heap.size, 1, none⟩ = some (.int .i64 tv)) := Lib.hid (fun w' hg => by simp [World.cell?, KX.out w' hg])
        go_enter Try.func27, Try.ntmps27
        go_wp2_with fail
        rw [hwx.out]
        have hw8 : IntKind.i64.wrap 8 = 8 := by decide
        have hw16 : IntKind.i64.wrap 16 = 16 := by decide
        have hw32 : IntKind.i64.wrap 32 = 32 := by decide
        have hwa256 : IntKind.i64.wrap 256 = 256 := by decide
        have hwa65536 : IntKind.i64.wrap 65536 = 65536 := by decide
        have hwa4294967296 : IntKind.i64.wrap 4294967296 = 4294967296 := by decide
        have hvx : decide (0 ≤ tv) = true := decide_eq_true (by have := hvh.out; omega)
        go_region_held3 (fun w' => w'.cell? ⟨w.heap.size, 1, none⟩ = some (.int .i64 tv))
          (first
            | exact KC.out _ (Below.refl _ _).drew
            | exact KC.out _ hb5
            | go_keep)
          (first
            | (go_at_call 68; refine C.out.mono ?_; rintro e w4 ⟨v4, rfl, hown, hb4⟩; have hb5 : Below wx.heap.size wx w4 := Below.trans (Below.drew (Below.refl _ _)) hb4; replace hown := Lib.hid hown))
        go_wp2_with fail
        go_ret2
        refine bytesPost_own (t := ⟨0, tv, tl, tf, ta, tn, tc, tF⟩) hown.out (by rw [leB_len]; simp only; omega) hn ?_ ?_ (KB.out _ hb5)
        · simp [itGood]
          try omega
        · intro h
          first
            | (rw [show tv % 18446744073709551616 = tv from by omega]; simp [itE]; done)
            | (exfalso; simp at h; omega)
            | cases h
    · have hvh := Lib.hid hv
      have C := Lib.hid (refBytes wx.drew (tv % 18446744073709551616) (by omega) 1 (by omega))
      have KC : Hid (∀ w', Below wx.heap.size wx w' → w'.cell? ⟨w.heap.size, 1, none⟩ = some (.int .i64 tv)) := Lib.hid (fun w' hg => by simp [World.cell?, KX.out w' hg])
      go_enter Try.func27, Try.ntmps27
      go_wp2_with fail
      rw [hwx.out]
      have hw8 : IntKind.i64.wrap 8 = 8 := by decide
      have hw16 : IntKind.i64.wrap 16 = 16 := by decide
      have hw32 : IntKind.i64.wrap 32 = 32 := by decide
      have hwa256 : IntKind.i64.wrap 256 = 256 := by decide
      have hwa65536 : IntKind.i64.wrap 65536 = 65536 := by decide
      have hwa4294967296 : IntKind.i64.wrap 4294967296 = 4294967296 := by decide
      have hvx : ¬ 0 ≤ tv := by have := hvh.out; omega
      refine wp_region_held_drew (S := fun w' => w'.cell? ⟨w.heap.size, 1, none⟩ = some (.int .i64 tv)) (by kernel_rfl) (KC.out _ (Below.refl _ _).drew) (fun hHeld => ?_)
      refine wpAnyH_take (i := 0) (v := .pointer (some ⟨w.heap.size, 1, none⟩)) rfl (by kernel_rfl) (by kernel_rfl) (by kernel_rfl) (fun _ _ _ h => h) (Or.inl ⟨by rfl, ?_⟩) (by assumption) ?_
      · intro w' hSw
        (try dsimp only at hSw)
        go_simp
      (try simp only [Act.put, List.setIfInBounds_toArray, List.set_cons_zero, List.set_cons_succ])
      refine wpAnyH_take (i := 1) (v := .int .i64 tv) rfl (by kernel_rfl) (by kernel_rfl) (by kernel_rfl) (fun _ _ _ h => h) (Or.inl ⟨by rfl, ?_⟩) (by assumption) ?_
      · intro w' hSw
        (try dsimp only at hSw)
        go_simp
      (try simp only [Act.put, List.setIfInBounds_toArray, List.set_cons_zero, List.set_cons_succ])
      refine wpAnyH_take (i := 2) (v := .int .u64 (IntKind.u64.wrap tv)) rfl (by kernel_rfl) (by kernel_rfl) (by kernel_rfl) (fun _ _ _ h => h) (Or.inl ⟨by rfl, ?_⟩) (by assumption) ?_
      · intro w' hSw
        (try dsimp only at hSw)
        go_simp
      (try simp only [Act.put, List.setIfInBounds_toArray, List.set_cons_zero, List.set_cons_succ])
      refine wpAnyH_take (i := 3) (v := .int .i64 1) rfl (by kernel_rfl) (by kernel_rfl) (by kernel_rfl) (fun _ _ _ h => h) (Or.inl ⟨by rfl, ?_⟩) (by assumption) ?_
      · intro w' hSw
        (try dsimp only at hSw)
        go_simp
      (try simp only [Act.put, List.setIfInBounds_toArray, List.set_cons_zero, List.set_cons_succ])
      refine wpAnyH_take (i := 5) (v := .pointer (some ⟨w.heap.size, 1, none⟩)) rfl (by kernel_rfl) (by kernel_rfl) (by kernel_rfl) (fun _ _ _ h => h) (Or.inl ⟨by rfl, ?_⟩) (by assumption) ?_
      · intro w' hSw
        (try dsimp only at hSw)
        go_simp
      (try simp only [Act.put, List.setIfInBounds_toArray, List.set_cons_zero, List.set_cons_succ])
      refine wpAnyH_take (i := 6) (v := .int .i64 tv) rfl (by kernel_rfl) (by kernel_rfl) (by kernel_rfl) (fun _ _ _ h => h) (Or.inl ⟨by rfl, ?_⟩) (by assumption) ?_
      · intro w' hSw
        (try dsimp only at hSw)
        go_simp
      (try simp only [Act.put, List.setIfInBounds_toArray, List.set_cons_zero, List.set_cons_succ])
      refine wpAnyH_take (i := 7) (v := .bool false) rfl (by kernel_rfl) (by kernel_rfl) (by kernel_rfl) (fun _ _ _ h => h) (Or.inl ⟨by rfl, ?_⟩) (by assumption) ?_
      · intro w' hSw
        (try dsimp only at hSw)
        go_simp
        try (simp; omega)
      (try simp only [Act.put, List.setIfInBounds_toArray, List.set_cons_zero, List.set_cons_succ])
      refine wpAnyH_ready (rs := [4]) (by kernel_rfl) (by simp) ?_
      refine AllReadyH.cons rfl (fun K hK => ?_) AllReadyH.nil
      go_simp
      go_at_call 68
      refine C.out.mono ?_
      rintro e w4 ⟨v4, rfl, hown, hb4⟩
      have hb5 : Below wx.heap.size wx w4 := Below.trans (Below.drew (Below.refl _ _)) hb4
      replace hown := Lib.hid hown
      refine hK.out _ _ (KC.out _ hb5) (fun hHeld2 => ?_)
      (try simp only [Act.put, List.setIfInBounds_toArray, List.set_cons_zero, List.set_cons_succ])
      refine wpAnyH_take (i := 8) (v := .bool false) rfl (by kernel_rfl) (by kernel_rfl) (by kernel_rfl) (fun _ _ _ h => h) (Or.inl ⟨by rfl, ?_⟩) (by assumption) ?_
      · intro w' hSw
        (try dsimp only at hSw)
        go_simp
      (try simp only [Act.put, List.setIfInBounds_toArray, List.set_cons_zero, List.set_cons_succ])
      refine wpAnyH_take (i := 9) (v := undef) rfl (by kernel_rfl) (by kernel_rfl) (by kernel_rfl) (fun _ _ _ h => h) (Or.inr ⟨by rfl, rfl⟩) (by assumption) ?_
      (try simp only [Act.put, List.setIfInBounds_toArray, List.set_cons_zero, List.set_cons_succ])
      refine wpAnyH_take (i := 10) (v := undef) rfl (by kernel_rfl) (by kernel_rfl) (by kernel_rfl) (fun _ _ _ h => h) (Or.inr ⟨by rfl, rfl⟩) (by assumption) ?_
      (try simp only [Act.put, List.setIfInBounds_toArray, List.set_cons_zero, List.set_cons_succ])
      refine wpAnyH_take (i := 11) (v := undef) rfl (by kernel_rfl) (by kernel_rfl) (by kernel_rfl) (fun _ _ _ h => h) (Or.inr ⟨by rfl, rfl⟩) (by assumption) ?_
      (try simp only [Act.put, List.setIfInBounds_toArray, List.set_cons_zero, List.set_cons_succ])
      refine wpAnyH_take (i := 12) (v := undef) rfl (by kernel_rfl) (by kernel_rfl) (by kernel_rfl) (fun _ _ _ h => h) (Or.inr ⟨by rfl, rfl⟩) (by assumption) ?_
      (try simp only [Act.put, List.setIfInBounds_toArray, List.set_cons_zero, List.set_cons_succ])
      refine wpAnyH_take (i := 13) (v := undef) rfl (by kernel_rfl) (by kernel_rfl) (by kernel_rfl) (fun _ _ _ h => h) (Or.inr ⟨by rfl, rfl⟩) (by assumption) ?_
      (try simp only [Act.put, List.setIfInBounds_toArray, List.set_cons_zero, List.set_cons_succ])
      refine wpAnyH_take (i := 14) (v := undef) rfl (by kernel_rfl) (by kernel_rfl) (by kernel_rfl) (fun _ _ _ h => h) (Or.inr ⟨by rfl, rfl⟩) (by assumption) ?_
      (try simp only [Act.put, List.setIfInBounds_toArray, List.set_cons_zero, List.set_cons_succ])
      refine wpAnyH_take (i := 15) (v := .bool false) rfl (by kernel_rfl) (by kernel_rfl) (by kernel_rfl) (fun _ _ _ h => h) (Or.inl ⟨by rfl, ?_⟩) (by assumption) ?_
      · intro w' hSw
        (try dsimp only at hSw)
        go_simp
      (try simp only [Act.put, List.setIfInBounds_toArray, List.set_cons_zero, List.set_cons_succ])
      refine wpAnyH_take (i := 16) (v := v4) rfl (by kernel_rfl) (by kernel_rfl) (by kernel_rfl) (fun _ _ _ h => h) (Or.inl ⟨by rfl, ?_⟩) (by assumption) ?_
      · intro w' hSw
        (try dsimp only at hSw)
        go_simp
      (try simp only [Act.put, List.setIfInBounds_toArray, List.set_cons_zero, List.set_cons_succ])
      refine wpAnyH_take (i := 17) (v := .bool false) rfl (by kernel_rfl) (by kernel_rfl) (by kernel_rfl) (fun _ _ _ h => h) (Or.inl ⟨by rfl, ?_⟩) (by assumption) ?_
      · intro w' hSw
        (try dsimp only at hSw)
        go_simp
      (try simp only [Act.put, List.setIfInBounds_toArray, List.set_cons_zero, List.set_cons_succ])
      refine wpAnyH_done (by kernel_rfl) ?_ _
      all_goals
        go_wp2_with fail
        go_ret2
        refine bytesPost_own (t := ⟨0, tv, tl, tf, ta, tn, tc, tF⟩) hown.out (by rw [leB_len]; simp only; omega) hn ?_ ?_ (KB.out _ hb5)
        · simp [itGood]
          try omega
        · intro h
          first
            | (rw [show tv % 18446744073709551616 = tv from by omega]; simp [itE]; done)
            | (exfalso; simp at h; omega)
            | cases h
  by_cases e1 : tk = 1
  · subst e1
    by_cases hv : 0 ≤ tv
    · have hvh := Lib.hid hv
      by_cases hv2 : tv < 65536
      · have C := Lib.hid (refBytes wx.drew (tv % 18446744073709551616) (by omega) 2 (by omega))
        have KC : Hid (∀ w', Below wx.heap.size wx w' → w'.cell? ⟨w.heap.size, 1, none⟩ = some (.int .i64 tv)) := Lib.hid (fun w' hg => by simp [World.cell?, KX.out w' hg])
        go_enter Try.func27, Try.ntmps27
        go_wp2_with fail
        rw [hwx.out]
        have hw8 : IntKind.i64.wrap 8 = 8 := by decide
        have hw16 : IntKind.i64.wrap 16 = 16 := by decide
        have hw32 : IntKind.i64.wrap 32 = 32 := by decide
        have hwa256 : IntKind.i64.wrap 256 = 256 := by decide
        have hwa65536 : IntKind.i64.wrap 65536 = 65536 := by decide
        have hwa4294967296 : IntKind.i64.wrap 4294967296 = 4294967296 := by decide
        have hvx : decide (0 ≤ tv) = true := decide_eq_true (by have := hvh.out; omega)
        go_region_held3 (fun w' => w'.cell? ⟨w.heap.size, 1, none⟩ = some (.int .i64 tv))
          (first
            | exact KC.out _ (Below.refl _ _).drew
            | exact KC.out _ hb5
            | go_keep)
          (first
            | (go_at_call 68; refine C.out.mono ?_; rintro e w4 ⟨v4, rfl, hown, hb4⟩; have hb5 : Below wx.heap.size wx w4 := Below.trans (Below.drew (Below.refl _ _)) hb4; replace hown := Lib.hid hown))
        go_wp2_with fail
        go_ret2
        refine bytesPost_own (t := ⟨1, tv, tl, tf, ta, tn, tc, tF⟩) hown.out (by rw [leB_len]; simp only; omega) hn ?_ ?_ (KB.out _ hb5)
        · simp [itGood]
          try omega
        · intro h
          first
            | (rw [show tv % 18446744073709551616 = tv from by omega]; simp [itE]; done)
            | (exfalso; simp at h; omega)
            | cases h
      · have C := Lib.hid (refBytes wx.drew (tv % 18446744073709551616) (by omega) 2 (by omega))
        have KC : Hid (∀ w', Below wx.heap.size wx w' → w'.cell? ⟨w.heap.size, 1, none⟩ = some (.int .i64 tv)) := Lib.hid (fun w' hg => by simp [World.cell?, KX.out w' hg])
        go_enter Try.func27, Try.ntmps27
        go_wp2_with fail
        rw [hwx.out]
        have hw8 : IntKind.i64.wrap 8 = 8 := by decide
        have hw16 : IntKind.i64.wrap 16 = 16 := by decide
        have hw32 : IntKind.i64.wrap 32 = 32 := by decide
        have hwa256 : IntKind.i64.wrap 256 = 256 := by decide
        have hwa65536 : IntKind.i64.wrap 65536 = 65536 := by decide
        have hwa4294967296 : IntKind.i64.wrap 4294967296 = 4294967296 := by decide
        have hvx : decide (0 ≤ tv) = true := decide_eq_true (by have := hvh.out; omega)
        go_region_held3 (fun w' => w'.cell? ⟨w.heap.size, 1, none⟩ = some (.int .i64 tv))
          (first
            | exact KC.out _ (Below.refl _ _).drew
            | exact KC.out _ hb5
            | go_keep)
          (first
            | (go_at_call 68; refine C.out.mono ?_; rintro e w4 ⟨v4, rfl, hown, hb4⟩; have hb5 : Below wx.heap.size wx w4 := Below.trans (Below.drew (Below.refl _ _)) hb4; replace hown := Lib.hid hown))
        go_wp2_with fail
        go_ret2
        refine bytesPost_own (t := ⟨1, tv, tl, tf, ta, tn, tc, tF⟩) hown.out (by rw [leB_len]; simp only; omega) hn ?_ ?_ (KB.out _ hb5)
        · simp [itGood]
          try omega
        · intro h
          first
            | (rw [show tv % 18446744073709551616 = tv from by omega]; simp [itE]; done)
            | (exfalso; simp at h; omega)
            | cases h
    · have hvh := Lib.hid hv
      have C := Lib.hid (refBytes wx.drew (tv % 18446744073709551616) (by omega) 2 (by omega))
      have KC : Hid (∀ w', Below wx.heap.size wx w' → w'.cell? ⟨w.heap.size, 1, none⟩ = some (.int .i64 tv)) := Lib.hid (fun w' hg => by simp [World.cell?, KX.out w' hg])
      go_enter Try.func27, Try.ntmps27
      go_wp2_with fail
      rw [hwx.out]
      have hw8 : IntKind.i64.wrap 8 = 8 := by decide
      have hw16 : IntKind.i64.wrap 16 = 16 := by decide
      have hw32 : IntKind.i64.wrap 32 = 32 := by decide
      have hwa256 : IntKind.i64.wrap 256 = 256 := by decide
      have hwa65536 : IntKind.i64.wrap 65536 = 65536 := by decide
      have hwa4294967296 : IntKind.i64.wrap 4294967296 = 4294967296 := by decide
      have hvx : ¬ 0 ≤ tv := by have := hvh.out; omega
      refine wp_region_held_drew (S := fun w' => w'.cell? ⟨w.heap.size, 1, none⟩ = some (.int .i64 tv)) (by kernel_rfl) (KC.out _ (Below.refl _ _).drew) (fun hHeld => ?_)
      refine wpAnyH_take (i := 0) (v := .pointer (some ⟨w.heap.size, 1, none⟩)) rfl (by kernel_rfl) (by kernel_rfl) (by kernel_rfl) (fun _ _ _ h => h) (Or.inl ⟨by rfl, ?_⟩) (by assumption) ?_
      · intro w' hSw
        (try dsimp only at hSw)
        go_simp
      (try simp only [Act.put, List.setIfInBounds_toArray, List.set_cons_zero, List.set_cons_succ])
      refine wpAnyH_take (i := 1) (v := .int .i64 tv) rfl (by kernel_rfl) (by kernel_rfl) (by kernel_rfl) (fun _ _ _ h => h) (Or.inl ⟨by rfl, ?_⟩) (by assumption) ?_
      · intro w' hSw
        (try dsimp only at hSw)
        go_simp
      (try simp only [Act.put, List.setIfInBounds_toArray, List.set_cons_zero, List.set_cons_succ])
      refine wpAnyH_take (i := 2) (v := .int .u64 (IntKind.u64.wrap tv)) rfl (by kernel_rfl) (by kernel_rfl) (by kernel_rfl) (fun _ _ _ h => h) (Or.inl ⟨by rfl, ?_⟩) (by assumption) ?_
      · intro w' hSw
        (try dsimp only at hSw)
        go_simp
      (try simp only [Act.put, List.setIfInBounds_toArray, List.set_cons_zero, List.set_cons_succ])
      refine wpAnyH_take (i := 3) (v := .int .i64 2) rfl (by kernel_rfl) (by kernel_rfl) (by kernel_rfl) (fun _ _ _ h => h) (Or.inl ⟨by rfl, ?_⟩) (by assumption) ?_
      · intro w' hSw
        (try dsimp only at hSw)
        go_simp
      (try simp only [Act.put, List.setIfInBounds_toArray, List.set_cons_zero, List.set_cons_succ])
      refine wpAnyH_take (i := 5) (v := .pointer (some ⟨w.heap.size, 1, none⟩)) rfl (by kernel_rfl) (by kernel_rfl) (by kernel_rfl) (fun _ _ _ h => h) (Or.inl ⟨by rfl, ?_⟩) (by assumption) ?_
      · intro w' hSw
        (try dsimp only at hSw)
        go_simp
      (try simp only [Act.put, List.setIfInBounds_toArray, List.set_cons_zero, List.set_cons_succ])
      refine wpAnyH_take (i := 6) (v := .int .i64 tv) rfl (by kernel_rfl) (by kernel_rfl) (by kernel_rfl) (fun _ _ _ h => h) (Or.inl ⟨by rfl, ?_⟩) (by assumption) ?_
      · intro w' hSw
        (try dsimp only at hSw)
        go_simp
      (try simp only [Act.put, List.setIfInBounds_toArray, List.set_cons_zero, List.set_cons_succ])
      refine wpAnyH_take (i := 7) (v := .bool false) rfl (by kernel_rfl) (by kernel_rfl) (by kernel_rfl) (fun _ _ _ h => h) (Or.inl ⟨by rfl, ?_⟩) (by assumption) ?_
      · intro w' hSw
        (try dsimp only at hSw)
        go_simp
        try (simp; omega)
      (try simp only [Act.put, List.setIfInBounds_toArray, List.set_cons_zero, List.set_cons_succ])
      refine wpAnyH_ready (rs := [4]) (by kernel_rfl) (by simp) ?_
      refine AllReadyH.cons rfl (fun K hK => ?_) AllReadyH.nil
      go_simp
      go_at_call 68
      refine C.out.mono ?_
      rintro e w4 ⟨v4, rfl, hown, hb4⟩
      have hb5 : Below wx.heap.size wx w4 := Below.trans (Below.drew (Below.refl _ _)) hb4
      replace hown := Lib.hid hown
      refine hK.out _ _ (KC.out _ hb5) (fun hHeld2 => ?_)
      (try simp only [Act.put, List.setIfInBounds_toArray, List.set_cons_zero, List.set_cons_succ])
      refine wpAnyH_take (i := 8) (v := .bool false) rfl (by kernel_rfl) (by kernel_rfl) (by kernel_rfl) (fun _ _ _ h => h) (Or.inl ⟨by rfl, ?_⟩) (by assumption) ?_
      · intro w' hSw
        (try dsimp only at hSw)
        go_simp
      (try simp only [Act.put, List.setIfInBounds_toArray, List.set_cons_zero, List.set_cons_succ])
      refine wpAnyH_take (i := 9) (v := undef) rfl (by kernel_rfl) (by kernel_rfl) (by kernel_rfl) (fun _ _ _ h => h) (Or.inr ⟨by rfl, rfl⟩) (by assumption) ?_
      (try simp only [Act.put, List.setIfInBounds_toArray, List.set_cons_zero, List.set_cons_succ])
      refine wpAnyH_take (i := 10) (v := undef) rfl (by kernel_rfl) (by kernel_rfl) (by kernel_rfl) (fun _ _ _ h => h) (Or.inr ⟨by rfl, rfl⟩) (by assumption) ?_
      (try simp only [Act.put, List.setIfInBounds_toArray, List.set_cons_zero, List.set_cons_succ])
      refine wpAnyH_take (i := 11) (v := undef) rfl (by kernel_rfl) (by kernel_rfl) (by kernel_rfl) (fun _ _ _ h => h) (Or.inr ⟨by rfl, rfl⟩) (by assumption) ?_
      (try simp only [Act.put, List.setIfInBounds_toArray, List.set_cons_zero, List.set_cons_succ])
      refine wpAnyH_take (i := 12) (v := undef) rfl (by kernel_rfl) (by kernel_rfl) (by kernel_rfl) (fun _ _ _ h => h) (Or.inr ⟨by rfl, rfl⟩) (by assumption) ?_
      (try simp only [Act.put, List.setIfInBounds_toArray, List.set_cons_zero, List.set_cons_succ])
      refine wpAnyH_take (i := 13) (v := undef) rfl (by kernel_rfl) (by kernel_rfl) (by kernel_rfl) (fun _ _ _ h => h) (Or.inr ⟨by rfl, rfl⟩) (by assumption) ?_
      (try simp only [Act.put, List.setIfInBounds_toArray, List.set_cons_zero, List.set_cons_succ])
      refine wpAnyH_take (i := 14) (v := undef) rfl (by kernel_rfl) (by kernel_rfl) (by kernel_rfl) (fun _ _ _ h => h) (Or.inr ⟨by rfl, rfl⟩) (by assumption) ?_
      (try simp only [Act.put, List.setIfInBounds_toArray, List.set_cons_zero, List.set_cons_succ])
      refine wpAnyH_take (i := 15) (v := .bool false) rfl (by kernel_rfl) (by kernel_rfl) (by kernel_rfl) (fun _ _ _ h => h) (Or.inl ⟨by rfl, ?_⟩) (by assumption) ?_
      · intro w' hSw
        (try dsimp only at hSw)
        go_simp
      (try simp only [Act.put, List.setIfInBounds_toArray, List.set_cons_zero, List.set_cons_succ])
      refine wpAnyH_take (i := 16) (v := v4) rfl (by kernel_rfl) (by kernel_rfl) (by kernel_rfl) (fun _ _ _ h => h) (Or.inl ⟨by rfl, ?_⟩) (by assumption) ?_
      · intro w' hSw
        (try dsimp only at hSw)
        go_simp
      (try simp only [Act.put, List.setIfInBounds_toArray, List.set_cons_zero, List.set_cons_succ])
      refine wpAnyH_take (i := 17) (v := .bool false) rfl (by kernel_rfl) (by kernel_rfl) (by kernel_rfl) (fun _ _ _ h => h) (Or.inl ⟨by rfl, ?_⟩) (by assumption) ?_
      · intro w' hSw
        (try dsimp only at hSw)
        go_simp
      (try simp only [Act.put, List.setIfInBounds_toArray, List.set_cons_zero, List.set_cons_succ])
      refine wpAnyH_done (by kernel_rfl) ?_ _
      all_goals
        go_wp2_with fail
        go_ret2
        refine bytesPost_own (t := ⟨1, tv, tl, tf, ta, tn, tc, tF⟩) hown.out (by rw [leB_len]; simp only; omega) hn ?_ ?_ (KB.out _ hb5)
        · simp [itGood]
          try omega
        · intro h
          first
            | (rw [show tv % 18446744073709551616 = tv from by omega]; simp [itE]; done)
            | (exfalso; simp at h; omega)
            | cases h
  by_cases e2 : tk = 2
  · subst e2
    by_cases hv : 0 ≤ tv
    · have hvh := Lib.hid hv
      by_cases hv2 : tv < 4294967296
      · have C := Lib.hid (refBytes wx.drew (tv % 18446744073709551616) (by omega) 4 (by omega))
        have KC : Hid (∀ w', Below wx.heap.size wx w' → w'.cell? ⟨w.heap.size, 1, none⟩ = some (.int .i64 tv)) := Lib.hid (fun w' hg => by simp [World.cell?, KX.out w' hg])
        go_enter Try.func27, Try.ntmps27
        go_wp2_with fail
        rw [hwx.out]
        have hw8 : IntKind.i64.wrap 8 = 8 := by decide
        have hw16 : IntKind.i64.wrap 16 = 16 := by decide
        have hw32 : IntKind.i64.wrap 32 = 32 := by decide
        have hwa256 : IntKind.i64.wrap 256 = 256 := by decide
        have hwa65536 : IntKind.i64.wrap 65536 = 65536 := by decide
        have hwa4294967296 : IntKind.i64.wrap 4294967296 = 4294967296 := by decide
        have hvx : decide (0 ≤ tv) = true := decide_eq_true (by have := hvh.out; omega)
        go_region_held3 (fun w' => w'.cell? ⟨w.heap.size, 1, none⟩ = some (.int .i64 tv))
          (first
            | exact KC.out _ (Below.refl _ _).drew
            | exact KC.out _ hb5
            | go_keep)
          (first
            | (go_at_call 68; refine C.out.mono ?_; rintro e w4 ⟨v4, rfl, hown, hb4⟩; have hb5 : Below wx.heap.size wx w4 := Below.trans (Below.drew (Below.refl _ _)) hb4; replace hown := Lib.hid hown))
        go_wp2_with fail
        go_ret2
        refine bytesPost_own (t := ⟨2, tv, tl, tf, ta, tn, tc, tF⟩) hown.out (by rw [leB_len]; simp only; omega) hn ?_ ?_ (KB.out _ hb5)
        · simp [itGood]
          try omega
        · intro h
          first
            | (rw [show tv % 18446744073709551616 = tv from by omega]; simp [itE]; done)
            | (exfalso; simp at h; omega)
            | cases h
      · have C := Lib.hid (refBytes wx.drew (tv % 18446744073709551616) (by omega) 4 (by omega))
        have KC : Hid (∀ w', Below wx.heap.size wx w' → w'.cell? ⟨w.heap.size, 1, none⟩ = some (.int .i64 tv)) := Lib.hid (fun w' hg => by simp [World.cell?, KX.out w' hg])
        go_enter Try.func27, Try.ntmps27
        go_wp2_with fail
        rw [hwx.out]
        have hw8 : IntKind.i64.wrap 8 = 8 := by decide
        have hw16 : IntKind.i64.wrap 16 = 16 := by decide
        have hw32 : IntKind.i64.wrap 32 = 32 := by decide
        have hwa256 : IntKind.i64.wrap 256 = 256 := by decide
        have hwa65536 : IntKind.i64.wrap 65536 = 65536 := by decide
        have hwa4294967296 : IntKind.i64.wrap 4294967296 = 4294967296 := by decide
        have hvx : decide (0 ≤ tv) = true := decide_eq_true (by have := hvh.out; omega)
        go_region_held3 (fun w' => w'.cell? ⟨w.heap.size, 1, none⟩ = some (.int .i64 tv))
          (first
            | exact KC.out _ (Below.refl _ _).drew
            | exact KC.out _ hb5
            | go_keep)
          (first
            | (go_at_call 68; refine C.out.mono ?_; rintro e w4 ⟨v4, rfl, hown, hb4⟩; have hb5 : Below wx.heap.size wx w4 := Below.trans (Below.drew (Below.refl _ _)) hb4; replace hown := Lib.hid hown))
        go_wp2_with fail
        go_ret2
        refine bytesPost_own (t := ⟨2, tv, tl, tf, ta, tn, tc, tF⟩) hown.out (by rw [leB_len]; simp only; omega) hn ?_ ?_ (KB.out _ hb5)
        · simp [itGood]
          try omega
        · intro h
          first
            | (rw [show tv % 18446744073709551616 = tv from by omega]; simp [itE]; done)
            | (exfalso; simp at h; omega)
            | cases h
    · have hvh := Lib.hid hv
      have C := Lib.hid (refBytes wx.drew (tv % 18446744073709551616) (by omega) 4 (by omega))
      have KC : Hid (∀ w', Below wx.heap.size wx w' → w'.cell? ⟨w.heap.size, 1, none⟩ = some (.int .i64 tv)) := Lib.hid (fun w' hg => by simp [World.cell?, KX.out w' hg])
      go_enter Try.func27, Try.ntmps27
      go_wp2_with fail
      rw [hwx.out]
      have hw8 : IntKind.i64.wrap 8 = 8 := by decide
      have hw16 : IntKind.i64.wrap 16 = 16 := by decide
      have hw32 : IntKind.i64.wrap 32 = 32 := by decide
      have hwa256 : IntKind.i64.wrap 256 = 256 := by decide
      have hwa65536 : IntKind.i64.wrap 65536 = 65536 := by decide
      have hwa4294967296 : IntKind.i64.wrap 4294967296 = 4294967296 := by decide
      have hvx : ¬ 0 ≤ tv := by have := hvh.out; omega
      refine wp_region_held_drew (S := fun w' => w'.cell? ⟨w.heap.size, 1, none⟩ = some (.int .i64 tv)) (by kernel_rfl) (KC.out _ (Below.refl _ _).drew) (fun hHeld => ?_)
      refine wpAnyH_take (i := 0) (v := .pointer (some ⟨w.heap.size, 1, none⟩)) rfl (by kernel_rfl) (by kernel_rfl) (by kernel_rfl) (fun _ _ _ h => h) (Or.inl ⟨by rfl, ?_⟩) (by assumption) ?_
      · intro w' hSw
        (try dsimp only at hSw)
        go_simp
      (try simp only [Act.put, List.setIfInBounds_toArray, List.set_cons_zero, List.set_cons_succ])
      refine wpAnyH_take (i := 1) (v := .int .i64 tv) rfl (by kernel_rfl) (by kernel_rfl) (by kernel_rfl) (fun _ _ _ h => h) (Or.inl ⟨by rfl, ?_⟩) (by assumption) ?_
      · intro w' hSw
        (try dsimp only at hSw)
        go_simp
      (try simp only [Act.put, List.setIfInBounds_toArray, List.set_cons_zero, List.set_cons_succ])
      refine wpAnyH_take (i := 2) (v := .int .u64 (IntKind.u64.wrap tv)) rfl (by kernel_rfl) (by kernel_rfl) (by kernel_rfl) (fun _ _ _ h => h) (Or.inl ⟨by rfl, ?_⟩) (by assumption) ?_
      · intro w' hSw
        (try dsimp only at hSw)
        go_simp
      (try simp only [Act.put, List.setIfInBounds_toArray, List.set_cons_zero, List.set_cons_succ])
      refine wpAnyH_take (i := 3) (v := .int .i64 4) rfl (by kernel_rfl) (by kernel_rfl) (by kernel_rfl) (fun _ _ _ h => h) (Or.inl ⟨by rfl, ?_⟩) (by assumption) ?_
      · intro w' hSw
        (try dsimp only at hSw)
        go_simp
      (try simp only [Act.put, List.setIfInBounds_toArray, List.set_cons_zero, List.set_cons_succ])
      refine wpAnyH_take (i := 5) (v := .pointer (some ⟨w.heap.size, 1, none⟩)) rfl (by kernel_rfl) (by kernel_rfl) (by kernel_rfl) (fun _ _ _ h => h) (Or.inl ⟨by rfl, ?_⟩) (by assumption) ?_
      · intro w' hSw
        (try dsimp only at hSw)
        go_simp
      (try simp only [Act.put, List.setIfInBounds_toArray, List.set_cons_zero, List.set_cons_succ])
      refine wpAnyH_take (i := 6) (v := .int .i64 tv) rfl (by kernel_rfl) (by kernel_rfl) (by kernel_rfl) (fun _ _ _ h => h) (Or.inl ⟨by rfl, ?_⟩) (by assumption) ?_
      · intro w' hSw
        (try dsimp only at hSw)
        go_simp
      (try simp only [Act.put, List.setIfInBounds_toArray, List.set_cons_zero, List.set_cons_succ])
      refine wpAnyH_take (i := 7) (v := .bool false) rfl (by kernel_rfl) (by kernel_rfl) (by kernel_rfl) (fun _ _ _ h => h) (Or.inl ⟨by rfl, ?_⟩) (by assumption) ?_
      · intro w' hSw
        (try dsimp only at hSw)
        go_simp
        try (simp; omega)
      (try simp only [Act.put, List.setIfInBounds_toArray, List.set_cons_zero, List.set_cons_succ])
      refine wpAnyH_ready (rs := [4]) (by kernel_rfl) (by simp) ?_
      refine AllReadyH.cons rfl (fun K hK => ?_) AllReadyH.nil
      go_simp
      go_at_call 68
      refine C.out.mono ?_
      rintro e w4 ⟨v4, rfl, hown, hb4⟩
      have hb5 : Below wx.heap.size wx w4 := Below.trans (Below.drew (Below.refl _ _)) hb4
      replace hown := Lib.hid hown
      refine hK.out _ _ (KC.out _ hb5) (fun hHeld2 => ?_)
      (try simp only [Act.put, List.setIfInBounds_toArray, List.set_cons_zero, List.set_cons_succ])
      refine wpAnyH_take (i := 8) (v := .bool false) rfl (by kernel_rfl) (by kernel_rfl) (by kernel_rfl) (fun _ _ _ h => h) (Or.inl ⟨by rfl, ?_⟩) (by assumption) ?_
      · intro w' hSw
        (try dsimp only at hSw)
        go_simp
      (try simp only [Act.put, List.setIfInBounds_toArray, List.set_cons_zero, List.set_cons_succ])
      refine wpAnyH_take (i := 9) (v := undef) rfl (by kernel_rfl) (by kernel_rfl) (by kernel_rfl) (fun _ _ _ h => h) (Or.inr ⟨by rfl, rfl⟩) (by assumption) ?_
      (try simp only [Act.put, List.setIfInBounds_toArray, List.set_cons_zero, List.set_cons_succ])
      refine wpAnyH_take (i := 10) (v := undef) rfl (by kernel_rfl) (by kernel_rfl) (by kernel_rfl) (fun _ _ _ h => h) (Or.inr ⟨by rfl, rfl⟩) (by assumption) ?_
      (try simp only [Act.put, List.setIfInBounds_toArray, List.set_cons_zero, List.set_cons_succ])
      refine wpAnyH_take (i := 11) (v := undef) rfl (by kernel_rfl) (by kernel_rfl) (by kernel_rfl) (fun _ _ _ h => h) (Or.inr ⟨by rfl, rfl⟩) (by assumption) ?_
      (try simp only [Act.put, List.setIfInBounds_toArray, List.set_cons_zero, List.set_cons_succ])
      refine wpAnyH_take (i := 12) (v := undef) rfl (by kernel_rfl) (by kernel_rfl) (by kernel_rfl) (fun _ _ _ h => h) (Or.inr ⟨by rfl, rfl⟩) (by assumption) ?_
      (try simp only [Act.put, List.setIfInBounds_toArray, List.set_cons_zero, List.set_cons_succ])
      refine wpAnyH_take (i := 13) (v := undef) rfl (by kernel_rfl) (by kernel_rfl) (by kernel_rfl) (fun _ _ _ h => h) (Or.inr ⟨by rfl, rfl⟩) (by assumption) ?_
      (try simp only [Act.put, List.setIfInBounds_toArray, List.set_cons_zero, List.set_cons_succ])
      refine wpAnyH_take (i := 14) (v := undef) rfl (by kernel_rfl) (by kernel_rfl) (by kernel_rfl) (fun _ _ _ h => h) (Or.inr ⟨by rfl, rfl⟩) (by assumption) ?_
      (try simp only [Act.put, List.setIfInBounds_toArray, List.set_cons_zero, List.set_cons_succ])
      refine wpAnyH_take (i := 15) (v := .bool false) rfl (by kernel_rfl) (by kernel_rfl) (by kernel_rfl) (fun _ _ _ h => h) (Or.inl ⟨by rfl, ?_⟩) (by assumption) ?_
      · intro w' hSw
        (try dsimp only at hSw)
        go_simp
      (try simp only [Act.put, List.setIfInBounds_toArray, List.set_cons_zero, List.set_cons_succ])
      refine wpAnyH_take (i := 16) (v := v4) rfl (by kernel_rfl) (by kernel_rfl) (by kernel_rfl) (fun _ _ _ h => h) (Or.inl ⟨by rfl, ?_⟩) (by assumption) ?_
      · intro w' hSw
        (try dsimp only at hSw)
        go_simp
      (try simp only [Act.put, List.setIfInBounds_toArray, List.set_cons_zero, List.set_cons_succ])
      refine wpAnyH_take (i := 17) (v := .bool false) rfl (by kernel_rfl) (by kernel_rfl) (by kernel_rfl) (fun _ _ _ h => h) (Or.inl ⟨by rfl, ?_⟩) (by assumption) ?_
      · intro w' hSw
        (try dsimp only at hSw)
        go_simp
      (try simp only [Act.put, List.setIfInBounds_toArray, List.set_cons_zero, List.set_cons_succ])
      refine wpAnyH_done (by kernel_rfl) ?_ _
      all_goals
        go_wp2_with fail
        go_ret2
        refine bytesPost_own (t := ⟨2, tv, tl, tf, ta, tn, tc, tF⟩) hown.out (by rw [leB_len]; simp only; omega) hn ?_ ?_ (KB.out _ hb5)
        · simp [itGood]
          try omega
        · intro h
          first
            | (rw [show tv % 18446744073709551616 = tv from by omega]; simp [itE]; done)
            | (exfalso; simp at h; omega)
            | cases h
  by_cases e3 : tk = 3
  · subst e3
    have C := Lib.hid (refBytes wx (tl % 18446744073709551616) (by omega) 8 (by omega))
    go_enter Try.func27, Try.ntmps27
    go_wp2_with fail
    rw [hwx.out]
    refine C.out.mono ?_
    rintro e w4 ⟨v4, rfl, hown, hb4⟩
    replace hown := Lib.hid hown
    replace hb4 := Lib.hid hb4
    go_wp2_with fail
    go_ret2
    exact bytesPost_own (t := ⟨3, tv, tl, tf, ta, tn, tc, tF⟩) (g := true) hown.out (by simp [leB_len]) hn (by simp [itGood]) (fun _ => by simp [itE]) (KB.out _ hb4.out)
  by_cases e4 : tk = 4
  · subst e4
    cases tf
    · go_enter Try.func27, Try.ntmps27
      go_wp2_with fail
      rw [hwx.out]
      have h1 : Below w.heap.size w wx := hxb.out
      have h2 := hxs.out
      go_ret2
      refine ⟨some ⟨w.heap.size + 1, 0, none⟩, 1, [0], true, rfl, ⟨by decide, fun _ => ⟨w.heap.size + 1, 0, rfl, by rw [← h2]; simp, fun j hj => ?_⟩⟩, fun e => (by cases e), (by simp), by simp [itGood], fun _ => (by simp [itE, leB]), h1.alloc (by omega) _⟩
      have hj' : j < 1 := hj
      obtain rfl : j = 0 := by omega
      rw [← h2]
      have e := heap_alloc_new wx (Obj.cells #[Value.int .u8 0] 5)
      simp only [World.cell?, e]
      rfl
    · go_enter Try.func27, Try.ntmps27
      go_wp2_with fail
      rw [hwx.out]
      have h1 : Below w.heap.size w wx := hxb.out
      have h2 := hxs.out
      go_ret2
      refine ⟨some ⟨w.heap.size + 1, 0, none⟩, 1, [1], true, rfl, ⟨by decide, fun _ => ⟨w.heap.size + 1, 0, rfl, by rw [← h2]; simp, fun j hj => ?_⟩⟩, fun e => (by cases e), (by simp), by simp [itGood], fun _ => (by simp [itE, leB]), h1.alloc (by omega) _⟩
      have hj' : j < 1 := hj
      obtain rfl : j = 0 := by omega
      rw [← h2]
      have e := heap_alloc_new wx (Obj.cells #[Value.int .u8 1] 5)
      simp only [World.cell?, e]
      rfl
  by_cases e5 : tk = 5
  · subst e5
    have hab : ∀ p, ta = some p → tn = tn := fun _ _ => rfl
    have C := Lib.hid (refBytes wx.drew (tn : Int) (by omega) 2 (by omega))
    have KC : Hid (∀ w', Below wx.heap.size wx w' → w'.cell? ⟨w.heap.size, 4, none⟩ = some (.slice ta tn tc)) := Lib.hid (fun w' hg => by simp [World.cell?, KX.out w' hg])
    have hwn : IntKind.u64.wrap (tn : Int) = tn := by rw [IntKind.wrap_u64]; omega
    go_enter Try.func27, Try.ntmps27
    go_wp2_with fail
    rw [hwx.out]
    go_region_held3 (fun w' => w'.cell? ⟨w.heap.size, 4, none⟩ = some (.slice ta tn tc))
      (first
        | exact KC.out _ (Below.refl _ _).drew
        | exact KC.out _ hb5
        | exact KC.out _ hb7
        | go_keep)
      (first
        | (go_at_call 68; refine C.out.mono ?_; rintro e w4 ⟨v4, rfl, hown, hb4⟩; have hb5 : Below wx.heap.size wx w4 := Below.trans (Below.drew (Below.refl _ _)) hb4; replace hown := Lib.hid hown)
        | (refine step_append_bytes rfl _ _ rfl wx.heap.size v4 (leB tn 2) rfl hown.out ta tn tc tF rfl (hbI.out _ hb5) ht.out.nil (by rw [leB_len]; omega) hb5.size ?_; intro v7 w7 hown7 hgrow; have hb7 : Below wx.heap.size wx w7 := hb5.trans ⟨hgrow.os, hgrow.tape, hgrow.output, hgrow.size, fun k hk => hgrow.block k (Nat.lt_of_lt_of_le hk hb5.size) (fun e => by have := (hown.out.lt k e.symm).1; exact absurd this (by show ¬ wx.heap.size ≤ k; omega))⟩; replace hown7 := Lib.hid hown7))
    go_wp2_with fail
    go_ret2
    refine bytesPost_own (t := ⟨5, tv, tl, tf, ta, tn, tc, tF⟩) hown7.out (by simp [leB_len, lof_len]; omega) hn ?_ ?_ (KB.out _ hb7)
    · simp [itGood]
      try omega
    · intro h
      simp [itE]
  · go_enter Try.func27, Try.ntmps27
    go_wp2_with fail
    rw [hwx.out]
    have h1 : Below w.heap.size w wx := hxb.out
    have h2 := ht.out
    go_ret2
    refine ⟨ta, tc, lof tn tF, true, by simp [lof_len], ?_, by simpa [lof_len] using h2.nil, by simp [lof_len], by simp [itGood, e0, e1, e2, e5], fun _ => (by simp [itE, e0, e1, e2, e3, e4, e5]), h1⟩
    rw [lof_len]
    exact ints_congr (hbI.out _ (Below.refl _ _)) (fun j hj => (gtD_lof hj).symm)

end Go.Proofs.Ytnkgbigjpihfeaa.Kd
