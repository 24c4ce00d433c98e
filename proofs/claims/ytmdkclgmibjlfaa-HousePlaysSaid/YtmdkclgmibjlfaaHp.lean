/- Whatever a house is asked: HousePlays walked. -/
import Derived.Test.YtmdkclgmibjlfaaHd
import Derived.Deep.RegionHeld3
set_option linter.unusedVariables false
set_option linter.unusedSimpArgs false
namespace Go.Proofs.Ytmdkclgmibjlfaa.Ba
open Go.RowKit Go.Maps Go.Proofs.Ytmdkclgmibjlfaa.Mx Go.Proofs.Ytmdkclgmibjlfaa.Lib

theorem owns_keep {w w' : World} {base : Nat} {e : TypeId} {size : Nat} {v : Value} {n : Nat} {xs : List Value} (h : w.ownsRow base e size v n xs) (hb : Below w.heap.size w w') : w'.ownsRow base e size v n xs :=
  h.kept (row := none) ⟨hb.os, hb.tape, hb.output, hb.size, fun k hk _ => hb.block k hk⟩ (by cases hv : v.ownBlock <;> simp)
theorem owns_chg {w w' : World} {base : Nat} {e : TypeId} {size : Nat} {v : Value} {n : Nat} {xs : List Value} {B M : Nat} (h : w.ownsRow base e size v n xs) (hb : Chg B M w w') (h1 : B < base) (h2 : M < base) : w'.ownsRow base e size v n xs := by
  refine ⟨h.1, ?_⟩
  rcases h.2 with hn | ⟨g, cap, cur, rfl, hg0, hg, rest⟩
  · exact .inl hn
  · exact .inr ⟨g, cap, cur, rfl, hg0, (hb.block g (Array.getElem?_eq_some_iff.1 hg).1 (by omega) (by omega)).trans hg, rest⟩

theorem info72 : (Try.prog.info? 72).map (fun i => (i.zero, i.size, i.bytes)) = some (some (.agg #[.int .i64 0, .int .i64 0]), 2, 16) := by kernel_rfl

theorem cells2_snoc (E : Sents) (p : Int × Int × Bool) : cells2 (E ++ [p]) = cells2 E ++ [.int .i64 p.1, .int .i64 p.2.1] := by simp [cells2]

theorem total_take_succ {V : Type} (f : Int × V → Int) : ∀ (E : List (Int × V)) (j : Nat) (p : Int × V), E[j]? = some p → total f (E.take (j + 1)) = total f (E.take j) + f p
  | [], j, p, h => by simp at h
  | q :: E, 0, p, h => by simp at h; subst h; simp [total]
  | q :: E, j + 1, p, h => by
    have ih := total_take_succ f E j p (by simpa using h)
    unfold total at ih ⊢
    simp only [List.take_succ_cons, List.map_cons, List.sum_cons]
    omega

theorem totalH_bounds (r : Int) (es : Sents) : 0 ≤ total (fH r) es ∧ total (fH r) es ≤ es.length := by
  refine ⟨?_, total_leH r es⟩
  induction es with
  | nil => simp [total]
  | cons p es ih =>
    unfold total at ih ⊢
    simp only [List.map_cons, List.sum_cons, fH]
    split <;> omega

/-- Where a key stands among the first j. -/
def Found (E : Sents) (x : Int) (j : Nat) (an : Int) : Prop := (an = -1 ∧ ∀ i, i < j → (E.getD i (0, 0, false)).1 ≠ x) ∨ ∃ p : Nat, an = p ∧ p < j ∧ (E.getD p (0, 0, false)).1 = x

theorem found_hit {E : Sents} {x : Int} {j : Nat} (h : (E.getD j (0, 0, false)).1 = x) : Found E x (j + 1) j := Or.inr ⟨j, rfl, by omega, h⟩
theorem found_miss {E : Sents} {x an : Int} {j : Nat} (h : (E.getD j (0, 0, false)).1 ≠ x) (hf : Found E x j an) : Found E x (j + 1) an := by
  rcases hf with ⟨rfl, hf⟩ | ⟨p, rfl, h1, h2⟩
  · refine Or.inl ⟨rfl, fun i hi => ?_⟩
    by_cases e : i = j
    · rw [e]; exact h
    · exact hf i (by omega)
  · exact Or.inr ⟨p, rfl, by omega, h2⟩

theorem found_key {E : Sents} {x : Int} (h : Found E x E.length (-1)) : keyIn E x = false := by
  cases hk : keyIn E x
  · rfl
  · obtain ⟨p, hp, e⟩ := List.any_eq_true.1 hk
    obtain ⟨j, hj, hp'⟩ := List.getElem_of_mem hp
    rcases h with ⟨_, h⟩ | ⟨q, h, _⟩
    · exact absurd (by simp [List.getD, hj, hp']; simpa using e) (h j hj)
    · omega

theorem ints_low {w w' : World} {a : Option Addr} {m base : Nat} {F : Nat → Int} (h : IntsAt w .i64 a m F) (hl : 0 < m → ∀ p, a = some p → p.block < base) (hb : Below base w w') : IntsAt w' .i64 a m F := by
  refine ⟨h.1, fun hp => ?_⟩
  obtain ⟨b, o, rfl, hlt, hc⟩ := h.2 hp
  have hbb := hl hp _ rfl
  exact ⟨b, o, rfl, Nat.lt_of_lt_of_le hlt hb.size, fun j hj => (hb.cell (p := ⟨b, o + j, none⟩) hbb).trans (hc j hj)⟩

theorem HouAt.low {w w' : World} {B M : Nat} {a : Option Addr} {n c base : Nat} {F : Nat → Int} {es : Sents} (h : HouAt w B M a n c F es) (hl : 0 < n → ∀ p, a = some p → p.block < base) (h1 : B < base) (h2 : M < base) (hb : Below base w w') : HouAt w' B M a n c F es :=
  ⟨(hb.block B h1).trans h.box, ints_low h.ints hl hb, h.away, owns_of_block h.map (hb.block M h2), h.once⟩

theorem below_grown {w w' : World} {base : Nat} {v : Value} (hg : w.grownBy w' v.ownBlock) (hv : ∀ g, v.ownBlock = some g → base ≤ g) (hw : base ≤ w.heap.size) : Below base w w' :=
  ⟨hg.os, hg.tape, hg.output, hg.size, fun k hk => hg.block k (by omega) (fun e => by have := hv k e.symm; omega)⟩

set_option maxRecDepth 100000 in
set_option maxHeartbeats 6400000 in
theorem housePlays_walk (a : Option Addr) (m c : Nat) (F : Nat → Int) (s : Option Addr) (n d : Nat) (K R : Nat → Int) (W : World) (hF : IntsAt W .i64 a m F) (ha : a = none → m = 0) (hs : PairsAt W s n K R) (hwf : ∀ j, j < n → (Lit.int .i64 (K j)).wf = true) :
    Calls Try.prog 12 #[.slice a m c, .slice s n d] W fun e w' => e = .returned (.bool true) ∧ Below W.heap.size W w' := by
  have hbigm := hF.1
  have hbign := hs.1
  by_cases hbig : 100 < m ∨ 200 < n
  · have H21 : Hid (∀ w', Calls Try.prog 38 #[] w' fun e w'' => e = .returned (.bool true) ∧ Below w'.heap.size w' w'') := Lib.hid awake21
    by_cases hm : 100 < m
    · have hm' : (100 : Int) < m := by omega
      clear hF hs
      go_enter Try.func12, Try.ntmps12
      go_wp2_with fail
      refine (H21.out W).mono ?_
      rintro e w1 ⟨rfl, b1⟩
      go_wp2_with fail
      refine (H21.out _).mono ?_
      rintro e w2 ⟨rfl, b2⟩
      go_wp2_with fail
      go_ret
      exact ⟨rfl, b1.trans (b2.mono b1.size)⟩
    · have hm' : ¬ (100 : Int) < m := by omega
      have hn' : (200 : Int) < n := by omega
      clear hF hs
      go_enter Try.func12, Try.ntmps12
      go_wp2_with fail
      refine (H21.out W).mono ?_
      rintro e w1 ⟨rfl, b1⟩
      go_wp2_with fail
      refine (H21.out _).mono ?_
      rintro e w2 ⟨rfl, b2⟩
      go_wp2_with fail
      go_ret
      exact ⟨rfl, b1.trans (b2.mono b1.size)⟩
  · have hm' : ¬ (100 : Int) < m := by omega
    have hn' : ¬ (200 : Int) < n := by omega
    have HF := Lib.hid hF
    have HS := Lib.hid hs
    replace hwf := Lib.hid hwf
    replace ha := Lib.hid ha
    have hmm : m ≤ 100 := by omega
    have hnn : n ≤ 200 := by omega
    clear hF hs hbig
    go_enter Try.func12, Try.ntmps12
    go_wp2_with fail
    refine (awake21 W).mono ?_
    rintro e w1 ⟨rfl, b1⟩
    have hF1 := Lib.hid (HF.out.below b1)
    go_wp2_with fail
    refine (hnew_any _ hF1.out ha.out (by omega)).mono ?_
    rintro e w2 ⟨B, M, a', c', rfl, h2, gB, gM, b2⟩
    have hB2 := h2.lt
    have hM2 := h2.map.lt
    have hlo := Lib.hid (show 0 < m → ∀ p, a' = some p → p.block < w2.heap.size from fun hm p hp => by
      obtain ⟨b, o, e, hlt, _⟩ := h2.ints.2 hm
      rw [hp] at e
      cases e
      exact hlt)
    replace h2 := Lib.hid h2
    have bb2 := Lib.hid (b1.trans (b2.mono b1.size))
    have hgB : W.heap.size ≤ B := by have := b1.size; omega
    have hgM : W.heap.size ≤ M := by have := b1.size; omega
    clear b1 b2 gB gM hF1
    go_wp2_with fail
    generalize hbase : w2.heap.size = base at *
    go_loopw [6, 31] (fun dv i wr => ∃ k : Nat, k ≤ n ∧ i = .int .i64 k ∧ wr.ownsRow base 72 2 dv (esOf (hval m F R) K k).length (cells2 (esOf (hval m F R) K k)) ∧ HouAt wr B M a' m c' F (esOf (hval m F R) K k) ∧ Below W.heap.size W wr ∧ base ≤ wr.heap.size) (fun _ i _ => n - (intOf i).toNat)
    case atStart => exact ⟨0, Nat.zero_le _, rfl, World.ownsRow_nil _ _ _ _, h2.out, bb2.out, by omega⟩
    case round =>
      obtain ⟨k, hk, rfl, hown, hb, hbl, hbs⟩ := hrel
      by_cases hlt : k < n
      · obtain ⟨b, o, rfl, hbb, hc⟩ := HS.out.2 (by omega)
        obtain ⟨a6, c6, rfl, hP⟩ := pairs_of_row hown
        have ck : wr.cell? ⟨b, o + k * 2, none⟩ = some (.int .i64 (K k)) := (hbl.cell (p := ⟨b, o + k * 2, none⟩) hbb).trans (hc k hlt).1
        have cr : wr.cell? ⟨b, o + k * 2 + 1, none⟩ = some (.int .i64 (R k)) := (hbl.cell (p := ⟨b, o + k * 2 + 1, none⟩) hbb).trans (hc k hlt).2
        have hlt' : (k : Int) < n := by omega
        have hwk := Lib.hid (hwf.out k hlt)
        replace hb := Lib.hid hb
        replace hbl := Lib.hid hbl
        replace hown := Lib.hid hown
        replace hP := Lib.hid hP
        have hlen := len_esOf (hval m F R) K k
        clear hc h2 bb2
        generalize hE : esOf (hval m F R) K k = E at *
        replace hE := Lib.hid hE
        go_wp2_with fail
        have hX0 := heap_alloc_new wr (.cells #[.int .i64 (K k), .int .i64 (R k)] 72)
        have hXl : wr.heap.size < (wr.alloc (.cells #[.int .i64 (K k), .int .i64 (R k)] 72)).heap.size := by simp
        have hba := Lib.hid ((Below.refl wr.heap.size wr).alloc (Nat.le_refl _) (.cells #[.int .i64 (K k), .int .i64 (R k)] 72))
        have hXb : base ≤ wr.heap.size := hbs
        have hgX := Lib.hid (show ∀ g, (Value.slice a6 E.length c6).ownBlock = some g → base ≤ g ∧ g < wr.heap.size from hown.out.lt)
        replace hown := Lib.hid (owns_keep hown.out hba.out)
        replace hP := Lib.hid (hP.out.below hba.out)
        replace hb := Lib.hid (hb.out.keep hba.out)
        replace hbl := Lib.hid (hbl.out.trans (hba.out.mono hbl.out.size))
        clear hba ck cr hbs
        generalize wr.alloc (.cells #[.int .i64 (K k), .int .i64 (R k)] 72) = wx at *
        generalize wr.heap.size = X at *
        have x0 : wx.cell? ⟨X, 0, none⟩ = some (.int .i64 (K k)) := by simp [World.cell?, hX0]
        have x1 : wx.cell? ⟨X, 1, none⟩ = some (.int .i64 (R k)) := by simp [World.cell?, hX0]
        go_loopw [9, 40] (fun at_ i w3 => ∃ (j q : Nat) (an : Int), j ≤ E.length ∧ at_ = .int .i64 an ∧ i = .int .i64 j ∧ Hid (Found E (K k) j an) ∧ w3 = wx.drewN q) (fun _ i _ => E.length - (intOf i).toNat)
        case atStart => exact ⟨0, 0, -1, Nat.zero_le _, rfl, rfl, Lib.hid (Or.inl ⟨rfl, fun i hi => absurd hi (by omega)⟩), rfl⟩
        case round =>
          obtain ⟨j, q, an, hj, rfl, rfl, hfd, rfl⟩ := hrel
          by_cases hjl : j < E.length
          · obtain ⟨g6, o6, rfl, hg6, hc6⟩ := hP.out.2 (by omega)
            have cj : wx.cell? ⟨g6, o6 + j * 2, none⟩ = some (.int .i64 (E.getD j (0, 0, false)).1) := (hc6 j hjl).1
            replace hc6 := Lib.hid hc6
            have hjl' : (j : Int) < E.length := by omega
            have f1 := Lib.hid (fun h => found_hit (E := E) (x := K k) (j := j) h)
            have f2 := Lib.hid (fun h => found_miss (E := E) (x := K k) (j := j) h hfd.out)
            clear hc6
            generalize (E.getD j (0, 0, false)).1 = kj at *
            cases hxy : (kj == K k)
            · have f3 := Lib.hid (f2.out (by simpa using hxy))
              go_wp2_with fail
              go_quiet (fail)
              go_wp2_with fail
              go_roundw
              case rel => exact ⟨j + 1, q + nq, an, by omega, rfl, by go_num, f3, by simp⟩
              case measure => simp [intOf]; omega
            · have f3 := Lib.hid (f1.out (by simpa using hxy))
              go_wp2_with fail
              go_quiet (fail)
              go_wp2_with fail
              go_roundw
              case rel => exact ⟨j + 1, q + nq, j, by omega, rfl, by go_num, f3, by simp⟩
              case measure => simp [intOf]; omega
          · obtain rfl : j = E.length := by omega
            have hjl' : ¬ (E.length : Int) < E.length := by omega
            replace hown := Lib.hid (owns_keep hown.out (below_dn _ wx q))
            replace hP := Lib.hid (hP.out.below (below_dn _ wx q))
            replace hb := Lib.hid (hb.out.keep (below_dn _ wx q))
            replace hbl := Lib.hid (hbl.out.trans (below_dn _ wx q))
            replace x0 : (wx.drewN q).cell? ⟨X, 0, none⟩ = some (.int .i64 (K k)) := x0
            replace x1 : (wx.drewN q).cell? ⟨X, 1, none⟩ = some (.int .i64 (R k)) := x1
            replace hXl : X < (wx.drewN q).heap.size := hXl
            clear hX0
            generalize wx.drewN q = wq at *
            have hbo := (hown.out.1)
            have hlen2 := len_esOf (hval m F R) K (k + 1)
            by_cases han : an = -1
            case' pos =>
              subst han
              have hkey := found_key hfd.out
              clear hfd
              have hE1 : esOf (hval m F R) K (k + 1) = E ++ [(K k, R k, !memb m F (R k))] := by rw [esOf_new _ K (by rw [hE.out]; exact hkey), hE.out]; rfl
              obtain ⟨i72, hi, hz0, hz1, hz2⟩ := info_parts info72
              go_upto_region 19 with (first
                | (at_builtin; refine wpList_append_own _ rfl _ _ 68 rfl base 72 i72 (.agg #[.int .i64 0, .int .i64 0]) 2 16 Try.underlying68 hi hz0 hz1 hz2 rfl (by decide) _ _ _ rfl (hown.out.alloc _) ⟨wq.heap.size, 0, none⟩ 1 1 [.int .i64 (K k), .int .i64 (R k)] rfl rfl (cell_two_new _ _ _ _) (fun x hx => by simp at hx; rcases hx with rfl | rfl <;> rfl) (by unfold maxLen; omega) (by omega) (by simp; omega) ?_; intro v' w5 hown' hgrow hnil))
              have hb5 : Below base wq w5 := ((Below.refl _ _).alloc (by omega) (.cells #[.int .i64 (K k), .int .i64 (R k)] 72)).trans (below_grown hgrow (fun g hg => (hgX.out g hg).1) (by simp; omega))
              have hcX : ∀ o, w5.cell? ⟨X, o, none⟩ = wq.cell? ⟨X, o, none⟩ := fun o => (World.cell?_of_block (a := ⟨X, o, none⟩) (hgrow.block X (by simp; omega) (fun e => by have := (hgX.out X e.symm).2; omega))).trans (((Below.refl wq.heap.size wq).alloc (Nat.le_refl _) _).cell (p := ⟨X, o, none⟩) hXl)
              have hown5 : w5.ownsRow base 72 2 v' (esOf (hval m F R) K (k + 1)).length (cells2 (esOf (hval m F R) K (k + 1))) := by
                rw [hE1, cells2_snoc]
                simpa using hown'
              have hat : (esOf (hval m F R) K (k + 1))[E.length]? = some (K k, R k, !memb m F (R k)) := by rw [hE1]; simp
              replace x0 := (hcX 0).trans x0
              replace x1 := (hcX 1).trans x1
              have hsz5 := hb5.size
              replace hXl : X < w5.heap.size := by omega
              replace hbl := Lib.hid (hbl.out.trans (hb5.mono (by omega)))
              replace hb := Lib.hid (hb.out.low hlo.out hB2 hM2 hb5)
              have hm0 : ∃ u y, (esOf (hval m F R) K (k + 1))[E.length]? = some (K k, u, y) := ⟨_, _, hat⟩
              clear hat hown hP hcX hown' hgrow hnil hb5 hi hz0 hz1 hz2
              generalize wq = wold at *
              generalize w5 = wz at *
              obtain ⟨at_, hat_⟩ : ∃ t : Nat, t = E.length := ⟨_, rfl⟩
              rw [← hat_] at hm0 ⊢
              clear hat_
            case' neg =>
              obtain ⟨at_, rfl, hp, hpk⟩ : ∃ p : Nat, an = p ∧ p < E.length ∧ (E.getD p (0, 0, false)).1 = K k := by
                rcases hfd.out with ⟨h, _⟩ | h
                · exact absurd h han
                · exact h
              have hkey : keyIn E (K k) = true := List.any_eq_true.2 ⟨E[at_], List.getElem_mem hp, by simpa [List.getD, hp] using hpk⟩
              have hE1 : esOf (hval m F R) K (k + 1) = E := by rw [esOf_old _ K (by rw [hE.out]; exact hkey), hE.out]
              have hm0 : ∃ u y, (esOf (hval m F R) K (k + 1))[at_]? = some (K k, u, y) := ⟨E[at_].2.1, E[at_].2.2, by rw [hE1, List.getElem?_eq_getElem hp]; simp [← hpk, List.getD, hp]⟩
              have hown5 : wq.ownsRow base 72 2 (.slice a6 E.length c6) (esOf (hval m F R) K (k + 1)).length (cells2 (esOf (hval m F R) K (k + 1))) := by rw [hE1]; exact hown.out
              clear hown hP hfd han hp hpk
              go_upto_region 19 with fail
              generalize wq = wz at *
              generalize hv' : Value.slice a6 E.length c6 = v' at *
            all_goals
              try clear hv'
              obtain ⟨u, y, hm⟩ := hm0
              obtain ⟨a7, c7, rfl, hP7⟩ := pairs_of_row hown5
              have hmem : y = !memb m F u := hval_all m F K R (k + 1) _ (List.mem_of_getElem? hm)
              have hatl : at_ < (esOf (hval m F R) K (k + 1)).length := (List.getElem?_eq_some_iff.1 hm).1
              obtain ⟨g7, o7, rfl, hg7, hc7⟩ := hP7.2 (by omega)
              have hgd : (esOf (hval m F R) K (k + 1)).getD at_ (0, 0, false) = (K k, u, y) := by simp [List.getD, hm]
              have cu : wz.cell? ⟨g7, o7 + at_ * 2 + 1, none⟩ = some (.int .i64 u) := by
                have t : wz.cell? ⟨g7, o7 + at_ * 2 + 1, none⟩ = some (.int .i64 ((esOf (hval m F R) K (k + 1)).getD at_ (0, 0, false)).2.1) := (hc7 at_ hatl).2
                rw [hgd] at t
                exact t
              have hg7b : base ≤ g7 := (hown5.lt g7 rfl).1
              have C40 : Hid (∀ w', Below wz.heap.size wz w' → Calls Try.prog 40 #[.pointer (some ⟨B, 0, none⟩), .int .i64 (K k), .int .i64 (R k)] w' fun e w'' => e = .returned (.bool y) ∧ Chg B M w' w'' ∧ HouAt w'' B M a' m c' F (esOf (hval m F R) K (k + 1))) := Lib.hid fun w' hq => hask_step (by rw [hE.out]; exact hb.out.keep hq) hwk.out (by omega) hm
              have hWz := hbl.out.size
              have C41 : Hid (∀ w', Chg B M wz w' → Calls Try.prog 41 #[.slice a m c, .int .i64 u] w' fun e w'' => e = .returned (.bool y) ∧ w'' = w') := Lib.hid fun w' hq => there_any (HF.out.below (hbl.out.trans (hq.below hWz hgB hgM))) u (Lib.hid (by rw [hmem]; simp))
              have C42 : Hid (∀ w', HouAt w' B M a' m c' F (esOf (hval m F R) K (k + 1)) → Calls Try.prog 42 #[.pointer (some ⟨B, 0, none⟩)] w' fun e w'' => e = .returned (.int .i64 (esOf (hval m F R) K (k + 1)).length) ∧ w'' = w') := Lib.hid fun w' h => hkeys_any h
              have KS : Hid (∀ w', Chg B M wz w' → w'.cell? ⟨X, 0, none⟩ = some (.int .i64 (K k)) ∧ w'.cell? ⟨X, 1, none⟩ = some (.int .i64 (R k)) ∧ w'.cell? ⟨g7, o7 + at_ * 2 + 1, none⟩ = some (.int .i64 u)) := Lib.hid fun w' hq => ⟨(World.cell?_of_block (a := ⟨X, 0, none⟩) (hq.block X hXl (by omega) (by omega))).trans x0, (World.cell?_of_block (a := ⟨X, 1, none⟩) (hq.block X hXl (by omega) (by omega))).trans x1, (World.cell?_of_block (a := ⟨g7, o7 + at_ * 2 + 1, none⟩) (hq.block g7 hg7 (by omega) (by omega))).trans cu⟩
              have hatl' : (at_ : Int) < ((esOf (hval m F R) K (k + 1)).length : Int) := by omega
              replace hown5 := Lib.hid hown5
              clear hm hmem hc7 hgd hP7 hE1
              generalize hE2 : esOf (hval m F R) K (k + 1) = E2 at *
              replace hE2 := Lib.hid hE2
              go_region_held3 (fun w' => w'.cell? ⟨X, 0, none⟩ = some (.int .i64 (K k)) ∧ w'.cell? ⟨X, 1, none⟩ = some (.int .i64 (R k)) ∧ w'.cell? ⟨g7, o7 + at_ * 2 + 1, none⟩ = some (.int .i64 u))
                (first
                  | exact KS.out _ Chg.drew
                  | exact KS.out _ hc6
                  | go_keep)
                (first
                  | (go_at_call 40; refine (C40.out _ (Below.drew (Below.refl _ _))).mono ?_; rintro e w6 ⟨rfl, hc5, h6⟩; replace h6 := Lib.hid h6; have hc6 : Chg B M wz w6 := Chg.drew.trans hc5)
                  | (go_at_call 41; refine (C41.out _ (by first | exact hc6 | exact Chg.drew)).mono ?_; rintro e w7 ⟨rfl, rfl⟩)
                  | (go_at_call 42; refine (C42.out _ h6.out).mono ?_; rintro e w7 ⟨rfl, rfl⟩))
              all_goals
                have hfin := hbl.out.trans (hc6.below hWz hgB hgM)
                have hfs := hc6.size
                have hfo := owns_chg hown5.out hc6 hB2 hM2
                replace hfin := Lib.hid hfin
                replace hfo := Lib.hid hfo
                go_wp2_with fail
                go_roundw
                case rel => exact ⟨k + 1, by omega, by go_num, by rw [hE2.out]; exact hfo.out, by rw [hE2.out]; exact h6.out, hfin.out, by omega⟩
                case measure => simp [intOf]; omega
      · obtain rfl : k = n := by omega
        have hlt' : ¬ (k : Int) < k := by omega
        obtain ⟨a6, c6, rfl, hP⟩ := pairs_of_row hown
        have hall := Lib.hid (hval_all m F K R k)
        have hlen := len_esOf (hval m F R) K k
        replace hb := Lib.hid hb
        replace hbl := Lib.hid hbl
        replace hP := Lib.hid hP
        clear hown h2 bb2
        generalize esOf (hval m F R) K k = E at *
        generalize wr = wn at *
        go_wp2_with fail
        go_loopw [85] (fun i w3 => ∃ k2 : Nat, k2 ≤ k ∧ i = .int .i64 k2 ∧ HouAt w3 B M a' m c' F E ∧ Below wn.heap.size wn w3) (fun i _ => k - (intOf i).toNat)
        case atStart => exact ⟨0, Nat.zero_le _, rfl, hb.out, Below.refl _ _⟩
        case round =>
          obtain ⟨k2, hk2, rfl, hb3, hbl3⟩ := hrel
          by_cases hl2 : k2 < k
          · obtain ⟨b, o, rfl, hbb, hc⟩ := HS.out.2 (by omega)
            have hbw := hbl.out.trans (hbl3.mono hbl.out.size)
            have cr : wr.cell? ⟨b, o + k2 * 2 + 1, none⟩ = some (.int .i64 (R k2)) := (hbw.cell (p := ⟨b, o + k2 * 2 + 1, none⟩) hbb).trans (hc k2 hl2).2
            have hl2' : (k2 : Int) < k := by omega
            replace hb3 := Lib.hid hb3
            replace hbw := Lib.hid hbw
            replace hbl3 := Lib.hid hbl3
            clear hc
            have C41 : Hid (∀ (w' : World) (p : Int × Int × Bool), Below W.heap.size W w' → p ∈ E → Calls Try.prog 41 #[.slice a m c, .int .i64 p.2.1] w' fun e w'' => e = .returned (.bool p.2.2) ∧ w'' = w') := Lib.hid fun w' p hq hp => there_any (HF.out.below hq) p.2.1 (Lib.hid (by rw [hall.out p hp]; simp))
            generalize wr = wm at *
            generalize R k2 = r at *
            go_wp2_with fail
            go_loopw [12, 90] (fun cnt j w4 => ∃ jj q : Nat, jj ≤ E.length ∧ cnt = .int .i64 (total (fH r) (E.take jj)) ∧ j = .int .i64 jj ∧ w4 = wm.drewN q) (fun _ j _ => E.length - (intOf j).toNat)
            case atStart => exact ⟨0, 0, Nat.zero_le _, rfl, rfl, rfl⟩
            case round =>
              obtain ⟨jj, q, hjj, rfl, rfl, rfl⟩ := hrel
              by_cases hjl : jj < E.length
              · obtain ⟨g6, o6, rfl, hg6, hc6⟩ := hP.out.2 (by omega)
                have cj : wm.cell? ⟨g6, o6 + jj * 2 + 1, none⟩ = some (.int .i64 (E.getD jj (0, 0, false)).2.1) := (hbl3.out.cell (p := ⟨g6, o6 + jj * 2 + 1, none⟩) hg6).trans (hc6 jj hjl).2
                have hge : E[jj]? = some (E.getD jj (0, 0, false)) := by simp [List.getD, hjl]
                have hjl' : (jj : Int) < E.length := by omega
                have hts := total_take_succ (fH r) E jj _ hge
                have hC := Lib.hid (fun w' hq => C41.out w' _ hq (List.mem_of_getElem? hge))
                have hbd := totalH_bounds r (E.take jj)
                have hlt := List.length_take_le jj E
                replace hts := Lib.hid hts
                clear hc6 hge
                generalize E.getD jj (0, 0, false) = p at *
                obtain ⟨p0, u, y⟩ := p
                simp only at cj hC
                have hT := Lib.hid (show (total (fH r) (E.take jj)) = total (fH r) (E.take jj) from rfl)
                generalize total (fH r) (E.take jj) = T at *
                have hwv : Hid (∀ nq, (wm.drewN q).drewN nq = wm.drewN (q + nq)) := Lib.hid fun nq => by simp
                replace cj : (wm.drewN q).cell? ⟨g6, o6 + jj * 2 + 1, none⟩ = some (.int .i64 u) := cj
                have crv : (wm.drewN q).cell? ⟨b, o + k2 * 2 + 1, none⟩ = some (.int .i64 r) := cr
                have hbv := Lib.hid (hbw.out.trans (below_dn _ wm q))
                generalize hwq : wm.drewN q = wv at *
                replace hwq := Lib.hid hwq
                have hw1 : wrap64 (T + 1) = T + 1 := by unfold wrap64; omega
                cases hur : (u == r)
                · go_wp2_with fail
                  go_quiet (first | (go_at_call 41; refine Calls.quiet_of_same (hC.out _ (hbv.out.trans (below_dn _ _ _)))))
                  go_wp2_with fail
                  go_roundw
                  case rel => exact ⟨jj + 1, q + nq, by omega, by rw [hts.out]; simp [fH, hur], by go_num, hwv.out _⟩
                  case measure => simp [intOf]; omega
                · cases y
                  all_goals
                    go_wp2_with fail
                    go_quiet (first | (go_at_call 41; refine Calls.quiet_of_same (hC.out _ (hbv.out.trans (below_dn _ _ _)))))
                    go_wp2_with fail
                    go_roundw
                    case rel => exact ⟨jj + 1, q + nq, by omega, by rw [hts.out]; simp [fH, hur], by go_num, hwv.out _⟩
                    case measure => simp [intOf]; omega
              · obtain rfl : jj = E.length := by omega
                have hjl' : ¬ (E.length : Int) < E.length := by omega
                have C43 := Lib.hid (hsent_any (hb3.out.keep (below_dn _ wm q)) r (by omega))
                have crq : (wm.drewN q).cell? ⟨b, o + k2 * 2 + 1, none⟩ = some (.int .i64 r) := cr
                replace hb3 := Lib.hid (hb3.out.keep (below_dn _ wm q))
                replace hbl3 := Lib.hid (hbl3.out.trans (below_dn _ wm q))
                rw [List.take_length]
                clear cr
                generalize wm.drewN q = wq at *
                generalize total (fH r) E = T at *
                go_wp2_with fail
                refine C43.out.mono ?_
                rintro e w5 ⟨rfl, hb5⟩
                have h6 := Lib.hid (hb3.out.keep hb5)
                have hb7 := Lib.hid (hbl3.out.trans (hb5.mono hbl3.out.size))
                go_wp2_with fail
                go_roundw
                case rel => exact ⟨k2 + 1, by omega, by go_num, h6.out, hb7.out⟩
                case measure => simp [intOf]; omega
          · obtain rfl : k2 = k := by omega
            have hl2' : ¬ (k2 : Int) < k2 := by omega
            go_wp2_with fail
            go_ret
            exact ⟨rfl, hbl.out.trans (hbl3.mono hbl.out.size)⟩

end Go.Proofs.Ytmdkclgmibjlfaa.Ba
