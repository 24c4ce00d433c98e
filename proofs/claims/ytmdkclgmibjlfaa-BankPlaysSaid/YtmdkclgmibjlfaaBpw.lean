/- Whatever a bank is asked: BankPlays walked. -/
import Derived.Test.YtmdkclgmibjlfaaBq
import Derived.Deep.RegionHeld3
import Derived.LoopTactic
set_option linter.unusedVariables false
set_option linter.unusedSimpArgs false
namespace Go.Proofs.Ytmdkclgmibjlfaa.Ba
open Go.RowKit Go.Maps Go.Proofs.Ytmdkclgmibjlfaa.Mx Go.Proofs.Ytmdkclgmibjlfaa.Lib

theorem owns_keep {w w' : World} {base : Nat} {e : TypeId} {size : Nat} {v : Value} {n : Nat} {xs : List Value} (h : w.ownsRow base e size v n xs) (hb : Below w.heap.size w w') : w'.ownsRow base e size v n xs :=
  h.kept (row := none) ⟨hb.os, hb.tape, hb.output, hb.size, fun k hk _ => hb.block k hk⟩ (by cases hv : v.ownBlock <;> simp)
theorem owns_chg {w w' : World} {base : Nat} {e : TypeId} {size : Nat} {v : Value} {n : Nat} {xs : List Value} {B M : Nat} (h : w.ownsRow base e size v n xs) (hb : Chg B M w w') (h1 : B < base) (h2 : M < base) : w'.ownsRow base e size v n xs := by
  refine ⟨h.1, ?_⟩
  rcases h.2 with hn | ⟨g, cap, cur, rfl, hg0, hg, rest⟩
  · exact .inl hn
  · exact .inr ⟨g, cap, cur, rfl, hg0, (hb.block g (Array.getElem?_eq_some_iff.1 hg).1 (by omega) (by omega)).trans hg, rest⟩

theorem total_take_succ {V : Type} (f : Int × V → Int) : ∀ (E : List (Int × V)) (j : Nat) (p : Int × V), E[j]? = some p → total f (E.take (j + 1)) = total f (E.take j) + f p
  | [], j, p, h => by simp at h
  | q :: E, 0, p, h => by simp at h; subst h; simp [total]
  | q :: E, j + 1, p, h => by
    have ih := total_take_succ f E j p (by simpa using h)
    unfold total at ih ⊢
    simp only [List.take_succ_cons, List.map_cons, List.sum_cons]
    omega

theorem below_grown {w w' : World} {base : Nat} {v : Value} (hg : w.grownBy w' v.ownBlock) (hv : ∀ g, v.ownBlock = some g → base ≤ g) (hw : base ≤ w.heap.size) : Below base w w' :=
  ⟨hg.os, hg.tape, hg.output, hg.size, fun k hk => hg.block k (by omega) (fun e => by have := hv k e.symm; omega)⟩

theorem info61 : (Try.prog.info? 61).map (fun i => (i.zero, i.size, i.bytes)) = some (some (.agg #[.int .i64 0, .int .i64 0, .int .i64 0]), 3, 24) := by kernel_rfl
theorem info4 : (Try.prog.info? 4).map (fun i => (i.zero, i.size, i.bytes)) = some (some (.bool false), 1, 1) := by kernel_rfl

theorem cell_three_new (w : World) (a b c : Value) (t : TypeId) : ∀ j u, [a, b, c][j]? = some u → (w.alloc (.cells #[a, b, c] t)).cell? ((⟨w.heap.size, 0, none⟩ : Addr).add j) = some u := by
  intro j u hj
  match j, hj with
  | 0, hj => simp at hj; subst hj; simp [Addr.add]
  | 1, hj => simp at hj; subst hj; simp [Addr.add]
  | 2, hj => simp at hj; subst hj; simp [Addr.add]

/-- Where a key stands among the first j. -/
def FoundB (E : Deeds) (x : Int) (j : Nat) (an : Int) : Prop := (an = -1 ∧ ∀ i, i < j → (E.getD i dd).1 ≠ x) ∨ ∃ p : Nat, an = p ∧ p < j ∧ (E.getD p dd).1 = x

theorem foundB_hit {E : Deeds} {x : Int} {j : Nat} (h : (E.getD j dd).1 = x) : FoundB E x (j + 1) j := Or.inr ⟨j, rfl, by omega, h⟩
theorem foundB_miss {E : Deeds} {x an : Int} {j : Nat} (h : (E.getD j dd).1 ≠ x) (hf : FoundB E x j an) : FoundB E x (j + 1) an := by
  rcases hf with ⟨rfl, hf⟩ | ⟨p, rfl, h1, h2⟩
  · refine Or.inl ⟨rfl, fun i hi => ?_⟩
    by_cases e : i = j
    · rw [e]; exact h
    · exact hf i (by omega)
  · exact Or.inr ⟨p, rfl, by omega, h2⟩

theorem foundB_key {E : Deeds} {x : Int} (h : FoundB E x E.length (-1)) : keyIn E x = false := by
  cases hk : keyIn E x
  · rfl
  · obtain ⟨p, hp, e⟩ := List.any_eq_true.1 hk
    obtain ⟨j, hj, hp'⟩ := List.getElem_of_mem hp
    rcases h with ⟨_, h⟩ | ⟨q, h, _⟩
    · exact absurd (by simp [List.getD, hj, hp']; simpa using e) (h j hj)
    · omega

theorem BankAt.low {w w' : World} {B M base : Nat} {lim all : Int} {es : Deeds} (h : BankAt w B M lim all es) (h1 : B < base) (h2 : M < base) (hb : Below base w w') : BankAt w' B M lim all es :=
  ⟨(hb.block B h1).trans h.box, owns_of_block h.map (hb.block M h2), h.once⟩

set_option maxRecDepth 100000 in
set_option maxHeartbeats 6400000 in
theorem bankPlays_walk (lim : Int) (s : Option Addr) (n d : Nat) (K R S : Nat → Int) (W : World) (hs : TripAt W s n K R S) (hwf : ∀ j, j < n → (Lit.int .i64 (K j)).wf = true) :
    Calls Try.prog 9 #[.int .i64 lim, .slice s n d] W fun e w' => e = .returned (.bool true) ∧ Below W.heap.size W w' := by
  have hbign := hs.1
  by_cases hbig : 200 < n
  · have hn' : (200 : Int) < n := by omega
    clear hs
    go_enter Try.func9, Try.ntmps9
    go_wp2_with fail
    refine (awake20 W).mono ?_
    rintro e w1 ⟨rfl, b1⟩
    go_wp2_with fail
    refine (awake20 _).mono ?_
    rintro e w2 ⟨rfl, b2⟩
    go_wp2_with fail
    go_ret
    exact ⟨rfl, b1.trans (b2.mono b1.size)⟩
  · have hn' : ¬ (200 : Int) < n := by omega
    have HS := Lib.hid hs
    replace hwf := Lib.hid hwf
    have hnn : n ≤ 200 := by omega
    clear hs hbig
    go_enter Try.func9, Try.ntmps9
    go_wp2_with fail
    refine (awake20 W).mono ?_
    rintro e w1 ⟨rfl, b1⟩
    go_wp2_with fail
    refine (new_any lim _).mono ?_
    rintro e w2 ⟨rfl, h2, b2, s2⟩
    replace h2 := Lib.hid h2
    have bb2 := Lib.hid (b1.trans (b2.mono b1.size))
    have hgM : W.heap.size ≤ w1.heap.size := b1.size
    clear b1 b2
    generalize hB : w1.heap.size + 1 = B at *
    generalize hM : w1.heap.size = M at *
    have hgB : W.heap.size ≤ B := by omega
    have hB2 : B < w2.heap.size := by omega
    have hM2 : M < w2.heap.size := by omega
    clear hB hM s2
    go_wp2_with fail
    generalize hbase : w2.heap.size = base at *
    go_loopw [6, 7, 8, 29] (fun dv yv av i wr => ∃ k : Nat, k ≤ n ∧ i = .int .i64 k ∧ av = .int .i64 (bst lim K R S k).2 ∧ wr.ownsRow base 61 3 dv (bst lim K R S k).1.length (cells3 (bst lim K R S k).1) ∧ wr.ownsRow base 4 1 yv (bst lim K R S k).1.length (cellsY (bst lim K R S k).1) ∧ (dv.ownBlock = none ∨ dv.ownBlock ≠ yv.ownBlock) ∧ BankAt wr B M lim (bst lim K R S k).2 (bst lim K R S k).1 ∧ Below W.heap.size W wr ∧ base ≤ wr.heap.size) (fun _ _ _ i _ => n - (intOf i).toNat)
    case atStart => exact ⟨0, Nat.zero_le _, rfl, rfl, World.ownsRow_nil _ _ _ _, World.ownsRow_nil _ _ _ _, Or.inl rfl, h2.out, bb2.out, by omega⟩
    case round =>
      obtain ⟨k, hk, rfl, rfl, hown, hyes, hap, hb, hbl, hbs⟩ := hrel
      by_cases hlt : k < n
      · obtain ⟨b, o, rfl, hbb, hc⟩ := HS.out.2 (by omega)
        obtain ⟨a6, c6, rfl, hP⟩ := trips_of_row hown
        obtain ⟨a8, c8, rfl, hY⟩ := bools_of_row hyes
        have ck : wr.cell? ⟨b, o + k * 3, none⟩ = some (.int .i64 (K k)) := (hbl.cell (p := ⟨b, o + k * 3, none⟩) hbb).trans (hc k hlt).1
        have cr : wr.cell? ⟨b, o + k * 3 + 1, none⟩ = some (.int .i64 (R k)) := (hbl.cell (p := ⟨b, o + k * 3 + 1, none⟩) hbb).trans (hc k hlt).2.1
        have cs : wr.cell? ⟨b, o + k * 3 + 2, none⟩ = some (.int .i64 (S k)) := (hbl.cell (p := ⟨b, o + k * 3 + 2, none⟩) hbb).trans (hc k hlt).2.2
        have hlt' : (k : Int) < n := by omega
        have hwk := Lib.hid (hwf.out k hlt)
        replace hb := Lib.hid hb
        replace hbl := Lib.hid hbl
        replace hown := Lib.hid hown
        replace hyes := Lib.hid hyes
        replace hap := Lib.hid hap
        replace hP := Lib.hid hP
        have hV := Lib.hid (binv lim K R S k)
        have hV2 := Lib.hid (binv lim K R S (k + 1))
        have hlen := hV.out.len
        have hlen2 := hV2.out.len
        clear hc h2 bb2 hY
        generalize hE : (bst lim K R S k).1 = E at *
        generalize hA : (bst lim K R S k).2 = A at *
        replace hE := Lib.hid hE
        replace hA := Lib.hid hA
        go_wp2_with fail
        have hX0 := heap_alloc_new wr (.cells #[.int .i64 (K k), .int .i64 (R k), .int .i64 (S k)] 61)
        have hXl : wr.heap.size < (wr.alloc (.cells #[.int .i64 (K k), .int .i64 (R k), .int .i64 (S k)] 61)).heap.size := by simp
        have hba := Lib.hid ((Below.refl wr.heap.size wr).alloc (Nat.le_refl _) (.cells #[.int .i64 (K k), .int .i64 (R k), .int .i64 (S k)] 61))
        have hXb : base ≤ wr.heap.size := hbs
        have hgX := Lib.hid (show ∀ g, (Value.slice a6 E.length c6).ownBlock = some g → base ≤ g ∧ g < wr.heap.size from hown.out.lt)
        have hgY := Lib.hid (show ∀ g, (Value.slice a8 E.length c8).ownBlock = some g → base ≤ g ∧ g < wr.heap.size from hyes.out.lt)
        replace hown := Lib.hid (owns_keep hown.out hba.out)
        replace hyes := Lib.hid (owns_keep hyes.out hba.out)
        replace hP := Lib.hid (hP.out.below hba.out)
        replace hb := Lib.hid (hb.out.keep hba.out)
        replace hbl := Lib.hid (hbl.out.trans (hba.out.mono hbl.out.size))
        clear hba ck cr cs hbs
        generalize wr.alloc (.cells #[.int .i64 (K k), .int .i64 (R k), .int .i64 (S k)] 61) = wx at *
        generalize wr.heap.size = X at *
        have x0 : wx.cell? ⟨X, 0, none⟩ = some (.int .i64 (K k)) := by simp [World.cell?, hX0]
        have x1 : wx.cell? ⟨X, 1, none⟩ = some (.int .i64 (R k)) := by simp [World.cell?, hX0]
        have x2 : wx.cell? ⟨X, 2, none⟩ = some (.int .i64 (S k)) := by simp [World.cell?, hX0]
        go_loopw [11, 38] (fun at_ i w3 => ∃ (j q : Nat) (an : Int), j ≤ E.length ∧ at_ = .int .i64 an ∧ i = .int .i64 j ∧ Hid (FoundB E (K k) j an) ∧ w3 = wx.drewN q) (fun _ i _ => E.length - (intOf i).toNat)
        case atStart => exact ⟨0, 0, -1, Nat.zero_le _, rfl, rfl, Lib.hid (Or.inl ⟨rfl, fun i hi => absurd hi (by omega)⟩), rfl⟩
        case round =>
          obtain ⟨j, q, an, hj, rfl, rfl, hfd, rfl⟩ := hrel
          by_cases hjl : j < E.length
          · obtain ⟨g6, o6, rfl, hg6, hc6⟩ := hP.out.2 (by omega)
            have cj : wx.cell? ⟨g6, o6 + j * 3, none⟩ = some (.int .i64 (E.getD j dd).1) := (hc6 j hjl).1
            replace hc6 := Lib.hid hc6
            have hjl' : (j : Int) < E.length := by omega
            have f1 := Lib.hid (fun h => foundB_hit (E := E) (x := K k) (j := j) h)
            have f2 := Lib.hid (fun h => foundB_miss (E := E) (x := K k) (j := j) h hfd.out)
            clear hc6
            generalize (E.getD j dd).1 = kj at *
            cases hxy : (kj == K k)
            · have f3 := Lib.hid (f2.out (by simpa using hxy))
              go_wp2_with fail
              go_quiet (fail)
              go_wp2_with fail
              go_roundw
              case rel => exact ⟨j + 1, q + nq, an, by omega, rfl, by go_num, f3, by simp⟩
              case measure => simp [intOf]; omega
            · have f3 := Lib.hid (f1.out (by simpa using hxy))
              go_wp2_with fail
              go_quiet (fail)
              go_wp2_with fail
              go_roundw
              case rel => exact ⟨j + 1, q + nq, j, by omega, rfl, by go_num, f3, by simp⟩
              case measure => simp [intOf]; omega
          · obtain rfl : j = E.length := by omega
            have hjl' : ¬ (E.length : Int) < E.length := by omega
            replace hown := Lib.hid (owns_keep hown.out (below_dn _ wx q))
            replace hyes := Lib.hid (owns_keep hyes.out (below_dn _ wx q))
            replace hb := Lib.hid (hb.out.keep (below_dn _ wx q))
            replace hbl := Lib.hid (hbl.out.trans (below_dn _ wx q))
            replace x0 : (wx.drewN q).cell? ⟨X, 0, none⟩ = some (.int .i64 (K k)) := x0
            replace x1 : (wx.drewN q).cell? ⟨X, 1, none⟩ = some (.int .i64 (R k)) := x1
            replace x2 : (wx.drewN q).cell? ⟨X, 2, none⟩ = some (.int .i64 (S k)) := x2
            replace hXl : X < (wx.drewN q).heap.size := hXl
            clear hX0 hP
            generalize wx.drewN q = wq at *
            by_cases han : an = -1
            · subst han
              have hkey := foundB_key hfd.out
              clear hfd
              obtain ⟨i61, hi, hz0, hz1, hz2⟩ := info_parts info61
              go_upto_region 21 with (first
                | (at_builtin; refine wpList_append_own_at _ rfl _ _ 56 rfl base 61 i61 (.agg #[.int .i64 0, .int .i64 0, .int .i64 0]) 3 24 Try.underlying56 hi hz0 hz1 hz2 rfl (by decide) _ _ _ rfl (hown.out.alloc _) ⟨wq.heap.size, 0, none⟩ 1 1 [.int .i64 (K k), .int .i64 (R k), .int .i64 (S k)] rfl rfl (cell_three_new _ _ _ _ _) (fun x hx => by simp at hx; rcases hx with rfl | rfl | rfl <;> rfl) (by unfold maxLen; omega) (by omega) (by simp; omega) ?_; intro v' w5 hown' hgrow hnil hwho))
              replace hgrow : (wq.alloc (.cells #[.int .i64 (K k), .int .i64 (R k), .int .i64 (S k)] 61)).grownBy w5 (Value.slice a6 E.length c6).ownBlock := hgrow
              replace hwho : v'.ownBlock = (Value.slice a6 E.length c6).ownBlock ∨ v'.ownBlock = some (wq.heap.size + 1) := by
                rcases hwho with e | e
                · exact Or.inl e
                · exact Or.inr (e.trans (by simp))
              have hb5 : Below base wq w5 := ((Below.refl _ _).alloc (by omega) (.cells #[.int .i64 (K k), .int .i64 (R k), .int .i64 (S k)] 61)).trans (below_grown hgrow (fun g hg => (hgX.out g hg).1) (by simp; omega))
              have hcX : ∀ o, w5.cell? ⟨X, o, none⟩ = wq.cell? ⟨X, o, none⟩ := fun o => (World.cell?_of_block (a := ⟨X, o, none⟩) (hgrow.block X (by simp; omega) (fun e => by have := (hgX.out X e.symm).2; omega))).trans (((Below.refl wq.heap.size wq).alloc (Nat.le_refl _) _).cell (p := ⟨X, o, none⟩) hXl)
              have hyesw := Lib.hid ((hyes.out.alloc (.cells #[.int .i64 (K k), .int .i64 (R k), .int .i64 (S k)] 61)).kept hgrow (by
                rcases hap.out with e | e
                · rw [e]; cases (Value.slice a8 E.length c8).ownBlock <;> simp
                · exact Or.inr fun e2 => e e2.symm))
              have hapw := Lib.hid (show v'.ownBlock = none ∨ v'.ownBlock ≠ (Value.slice a8 E.length c8).ownBlock from by
                rcases hwho with e | e
                · rw [e]; exact hap.out
                · right
                  rw [e]
                  intro e2
                  have := (hgY.out _ e2.symm).2
                  omega)
              have hownw := Lib.hid hown'
              replace x0 := (hcX 0).trans x0
              replace x1 := (hcX 1).trans x1
              replace x2 := (hcX 2).trans x2
              have hsz5 := hb5.size
              replace hXl : X < w5.heap.size := by omega
              replace hbl := Lib.hid (hbl.out.trans (hb5.mono (by omega)))
              replace hb := Lib.hid (hb.out.low hB2 hM2 hb5)
              clear hown hyes hap hcX hown' hgrow hnil hwho hb5 hi hz0 hz1 hz2
              generalize wq = wold at *
              generalize w5 = ww at *
              obtain ⟨i4, hi4, hz4, hz5, hz6⟩ := info_parts info4
              have hAl := hV.out.lo
              have hAh := hV.out.hi
              have hw1 : wrap64 (1125899906842624 - A) = 1125899906842624 - A := by unfold wrap64; omega
              by_cases q1 : 0 ≤ S k
              · by_cases q2 : S k ≤ lim
                · by_cases q3 : S k ≤ 1125899906842624 - A
                  · have hw2 : wrap64 (A + S k) = A + S k := by unfold wrap64; omega
                    have hmy : mayB lim A (S k) = true := (by simp [mayB, q1, q2, q3])
                    have hkey' : keyIn (bst lim K R S k).1 (K k) = false := by rw [hE.out]; exact hkey
                    have hE1 : (bst lim K R S (k + 1)).1 = E ++ [(K k, R k, S k, true)] := by rw [bst_new lim K R S hkey', hE.out, hA.out, hmy]
                    have hA2 : (bst lim K R S (k + 1)).2 = A + S k := by rw [bst_new lim K R S hkey', hA.out, hmy]; rfl
                    clear hmy hkey'
                    go_upto_region 23 with (first
                      | (at_builtin; refine wpList_append_own_at _ rfl _ _ 59 rfl base 4 i4 (.bool false) 1 1 Try.underlying59 hi4 hz4 hz5 hz6 rfl (by decide) _ _ _ rfl (hyesw.out.alloc _) ⟨ww.heap.size, 0, none⟩ 1 1 [.bool true] rfl rfl (cell_one_new _ _ _) (fun x hx => by simp at hx; subst hx; rfl) (by unfold maxLen; omega) (by omega) (by simp; omega) ?_; intro v8 w6 hown8 hgrow8 hnil8 hwho8))
                    replace hgrow8 : (ww.alloc (.cells #[.bool true] 4)).grownBy w6 (Value.slice a8 E.length c8).ownBlock := hgrow8
                    replace hwho8 : v8.ownBlock = (Value.slice a8 E.length c8).ownBlock ∨ v8.ownBlock = some (ww.heap.size + 1) := by
                      rcases hwho8 with e | e
                      · exact Or.inl e
                      · exact Or.inr (e.trans (by simp))
                    have hb6 : Below base ww w6 := ((Below.refl _ _).alloc (by omega) (.cells #[.bool true] 4)).trans (below_grown hgrow8 (fun g hg => (hgY.out g hg).1) (by simp; omega))
                    have hcX6 : ∀ o, w6.cell? ⟨X, o, none⟩ = ww.cell? ⟨X, o, none⟩ := fun o => (World.cell?_of_block (a := ⟨X, o, none⟩) (hgrow8.block X (by simp; omega) (fun e => by have := (hgY.out X e.symm).2; omega))).trans (((Below.refl ww.heap.size ww).alloc (Nat.le_refl _) _).cell (p := ⟨X, o, none⟩) hXl)
                    have hown5 : w6.ownsRow base 61 3 v' (bst lim K R S (k + 1)).1.length (cells3 (bst lim K R S (k + 1)).1) := by
                      rw [hE1, cells3_snoc]
                      have t := (hownw.out.alloc (.cells #[.bool true] 4)).kept hgrow8 hapw.out
                      simpa using t
                    have hyes5 : w6.ownsRow base 4 1 v8 (bst lim K R S (k + 1)).1.length (cellsY (bst lim K R S (k + 1)).1) := by
                      rw [hE1, cellsY_snoc]
                      simpa using hown8
                    have hap5 : v'.ownBlock = none ∨ v'.ownBlock ≠ v8.ownBlock := by
                      rcases hwho8 with e | e
                      · rw [e]; exact hapw.out
                      · cases hv : v'.ownBlock with
                        | none => exact Or.inl rfl
                        | some g =>
                          right
                          rw [e]
                          have := (hownw.out.lt g hv).2
                          intro e2
                          cases e2
                          omega
                    have hm : (bst lim K R S (k + 1)).1[E.length]? = some (K k, R k, S k, true) := by rw [hE1]; simp
                    replace x0 := (hcX6 0).trans x0
                    replace x1 := (hcX6 1).trans x1
                    replace x2 := (hcX6 2).trans x2
                    have hsz6 := hb6.size
                    replace hXl : X < w6.heap.size := by omega
                    replace hbl := Lib.hid (hbl.out.trans (hb6.mono (by omega)))
                    replace hb := Lib.hid (hb.out.low hB2 hM2 hb6)
                    clear hown8 hgrow8 hnil8 hwho8 hcX6 hb6 hyesw hownw hapw hi4 hz4 hz5 hz6
                    generalize ww = wold6 at *
                    generalize w6 = wz at *
                    go_upto_region 25 with fail

                    have hatl : E.length < (bst lim K R S (k + 1)).1.length := (List.getElem?_eq_some_iff.1 hm).1
                    obtain ⟨a7, c7, rfl, hP7⟩ := trips_of_row hown5
                    obtain ⟨a9, c9, rfl, hY9⟩ := bools_of_row hyes5
                    obtain ⟨g9, o9, rfl, hg9, hc9⟩ := hY9.2 (by omega)
                    have cu : wz.cell? ⟨g9, o9 + E.length, none⟩ = some (.bool true) := by
                      have t : wz.cell? ⟨g9, o9 + E.length, none⟩ = some (.bool ((bst lim K R S (k + 1)).1.getD (E.length) dd).2.2.2) := hc9 _ hatl
                      rw [show (bst lim K R S (k + 1)).1.getD (E.length) dd = _ from by simp [List.getD, hm]; rfl] at t
                      exact t
                    have hg9b : base ≤ g9 := (hyes5.lt g9 rfl).1
                    have hWz := hbl.out.size
                    have C34 : Hid (∀ w', Below wz.heap.size wz w' → Calls Try.prog 34 #[.pointer (some ⟨B, 0, none⟩), .int .i64 (K k), .int .i64 (R k), .int .i64 (S k)] w' fun e w'' => e = .returned (.bool true) ∧ Chg B M w' w'' ∧ BankAt w'' B M lim (bst lim K R S (k + 1)).2 (bst lim K R S (k + 1)).1) := Lib.hid fun w' hq => bask_step (by rw [hE.out, hA.out]; exact hb.out.keep hq) hwk.out (by omega) hm
                    have C35 : Hid (∀ w', BankAt w' B M lim (bst lim K R S (k + 1)).2 (bst lim K R S (k + 1)).1 → Calls Try.prog 35 #[.pointer (some ⟨B, 0, none⟩)] w' fun e w'' => e = .returned (.int .i64 (A + S k)) ∧ w'' = w') := Lib.hid fun w' h => by rw [hA2] at h; exact all_any h
                    have C36 : Hid (∀ w', BankAt w' B M lim (bst lim K R S (k + 1)).2 (bst lim K R S (k + 1)).1 → Calls Try.prog 36 #[.pointer (some ⟨B, 0, none⟩)] w' fun e w'' => e = .returned (.int .i64 (bst lim K R S (k + 1)).1.length) ∧ w'' = w') := Lib.hid fun w' h => keys_any h
                    have KS : Hid (∀ w', Chg B M wz w' → w'.cell? ⟨X, 0, none⟩ = some (.int .i64 (K k)) ∧ w'.cell? ⟨X, 1, none⟩ = some (.int .i64 (R k)) ∧ w'.cell? ⟨X, 2, none⟩ = some (.int .i64 (S k)) ∧ w'.cell? ⟨g9, o9 + E.length, none⟩ = some (.bool true)) := Lib.hid fun w' hq => ⟨(World.cell?_of_block (a := ⟨X, 0, none⟩) (hq.block X hXl (by omega) (by omega))).trans x0, (World.cell?_of_block (a := ⟨X, 1, none⟩) (hq.block X hXl (by omega) (by omega))).trans x1, (World.cell?_of_block (a := ⟨X, 2, none⟩) (hq.block X hXl (by omega) (by omega))).trans x2, (World.cell?_of_block (a := ⟨g9, o9 + E.length, none⟩) (hq.block g9 hg9 (by omega) (by omega))).trans cu⟩
                    have hatl' : ((E.length : Nat) : Int) < ((bst lim K R S (k + 1)).1.length : Int) := by omega
                    replace hown5 := Lib.hid hown5
                    replace hyes5 := Lib.hid hyes5
                    replace hap5 := Lib.hid hap5
                    clear hm hc9 hP7 hY9 hE1
                    generalize hE2 : (bst lim K R S (k + 1)).1 = E2 at *
                    replace hE2 := Lib.hid hE2
                    replace hA2 := Lib.hid hA2
                    go_region_held3 (fun w' => w'.cell? ⟨X, 0, none⟩ = some (.int .i64 (K k)) ∧ w'.cell? ⟨X, 1, none⟩ = some (.int .i64 (R k)) ∧ w'.cell? ⟨X, 2, none⟩ = some (.int .i64 (S k)) ∧ w'.cell? ⟨g9, o9 + E.length, none⟩ = some (.bool true))
                      (first
                        | exact KS.out _ Chg.drew
                        | exact KS.out _ hc6
                        | go_keep)
                      (first
                        | (go_at_call 34; refine (C34.out _ (Below.drew (Below.refl _ _))).mono ?_; rintro e w6 ⟨rfl, hc5, h6⟩; replace h6 := Lib.hid h6; have hc6 : Chg B M wz w6 := Chg.drew.trans hc5)
                        | (go_at_call 35; refine (C35.out _ h6.out).mono ?_; rintro e w7 ⟨rfl, rfl⟩)
                        | (go_at_call 36; refine (C36.out _ h6.out).mono ?_; rintro e w7 ⟨rfl, rfl⟩))
                    all_goals
                      have hfin := Lib.hid (hbl.out.trans (hc6.below hWz hgB hgM))
                      have hfs := hc6.size
                      have hfo := Lib.hid (owns_chg hown5.out hc6 hB2 hM2)
                      have hfy := Lib.hid (owns_chg hyes5.out hc6 hB2 hM2)
                      go_wp2_with fail
                      go_roundw
                      case rel => exact ⟨k + 1, by omega, by go_num, by rw [hA2.out], by rw [hE2.out]; exact hfo.out, by rw [hE2.out]; exact hfy.out, hap5.out, by rw [hE2.out]; exact h6.out, hfin.out, by omega⟩
                      case measure => simp [intOf]; omega
                  · have q3 := q3
                    have hmy : mayB lim A (S k) = false := (by simp [mayB, q1, q2, q3])
                    have hkey' : keyIn (bst lim K R S k).1 (K k) = false := by rw [hE.out]; exact hkey
                    have hE1 : (bst lim K R S (k + 1)).1 = E ++ [(K k, R k, S k, false)] := by rw [bst_new lim K R S hkey', hE.out, hA.out, hmy]
                    have hA2 : (bst lim K R S (k + 1)).2 = A := by rw [bst_new lim K R S hkey', hA.out, hmy]; rfl
                    clear hmy hkey'
                    go_upto_region 23 with (first
                      | (at_builtin; refine wpList_append_own_at _ rfl _ _ 59 rfl base 4 i4 (.bool false) 1 1 Try.underlying59 hi4 hz4 hz5 hz6 rfl (by decide) _ _ _ rfl (hyesw.out.alloc _) ⟨ww.heap.size, 0, none⟩ 1 1 [.bool false] rfl rfl (cell_one_new _ _ _) (fun x hx => by simp at hx; subst hx; rfl) (by unfold maxLen; omega) (by omega) (by simp; omega) ?_; intro v8 w6 hown8 hgrow8 hnil8 hwho8))
                    replace hgrow8 : (ww.alloc (.cells #[.bool false] 4)).grownBy w6 (Value.slice a8 E.length c8).ownBlock := hgrow8
                    replace hwho8 : v8.ownBlock = (Value.slice a8 E.length c8).ownBlock ∨ v8.ownBlock = some (ww.heap.size + 1) := by
                      rcases hwho8 with e | e
                      · exact Or.inl e
                      · exact Or.inr (e.trans (by simp))
                    have hb6 : Below base ww w6 := ((Below.refl _ _).alloc (by omega) (.cells #[.bool false] 4)).trans (below_grown hgrow8 (fun g hg => (hgY.out g hg).1) (by simp; omega))
                    have hcX6 : ∀ o, w6.cell? ⟨X, o, none⟩ = ww.cell? ⟨X, o, none⟩ := fun o => (World.cell?_of_block (a := ⟨X, o, none⟩) (hgrow8.block X (by simp; omega) (fun e => by have := (hgY.out X e.symm).2; omega))).trans (((Below.refl ww.heap.size ww).alloc (Nat.le_refl _) _).cell (p := ⟨X, o, none⟩) hXl)
                    have hown5 : w6.ownsRow base 61 3 v' (bst lim K R S (k + 1)).1.length (cells3 (bst lim K R S (k + 1)).1) := by
                      rw [hE1, cells3_snoc]
                      have t := (hownw.out.alloc (.cells #[.bool false] 4)).kept hgrow8 hapw.out
                      simpa using t
                    have hyes5 : w6.ownsRow base 4 1 v8 (bst lim K R S (k + 1)).1.length (cellsY (bst lim K R S (k + 1)).1) := by
                      rw [hE1, cellsY_snoc]
                      simpa using hown8
                    have hap5 : v'.ownBlock = none ∨ v'.ownBlock ≠ v8.ownBlock := by
                      rcases hwho8 with e | e
                      · rw [e]; exact hapw.out
                      · cases hv : v'.ownBlock with
                        | none => exact Or.inl rfl
                        | some g =>
                          right
                          rw [e]
                          have := (hownw.out.lt g hv).2
                          intro e2
                          cases e2
                          omega
                    have hm : (bst lim K R S (k + 1)).1[E.length]? = some (K k, R k, S k, false) := by rw [hE1]; simp
                    replace x0 := (hcX6 0).trans x0
                    replace x1 := (hcX6 1).trans x1
                    replace x2 := (hcX6 2).trans x2
                    have hsz6 := hb6.size
                    replace hXl : X < w6.heap.size := by omega
                    replace hbl := Lib.hid (hbl.out.trans (hb6.mono (by omega)))
                    replace hb := Lib.hid (hb.out.low hB2 hM2 hb6)
                    clear hown8 hgrow8 hnil8 hwho8 hcX6 hb6 hyesw hownw hapw hi4 hz4 hz5 hz6
                    generalize ww = wold6 at *
                    generalize w6 = wz at *
                    go_upto_region 25 with fail

                    have hatl : E.length < (bst lim K R S (k + 1)).1.length := (List.getElem?_eq_some_iff.1 hm).1
                    obtain ⟨a7, c7, rfl, hP7⟩ := trips_of_row hown5
                    obtain ⟨a9, c9, rfl, hY9⟩ := bools_of_row hyes5
                    obtain ⟨g9, o9, rfl, hg9, hc9⟩ := hY9.2 (by omega)
                    have cu : wz.cell? ⟨g9, o9 + E.length, none⟩ = some (.bool false) := by
                      have t : wz.cell? ⟨g9, o9 + E.length, none⟩ = some (.bool ((bst lim K R S (k + 1)).1.getD (E.length) dd).2.2.2) := hc9 _ hatl
                      rw [show (bst lim K R S (k + 1)).1.getD (E.length) dd = _ from by simp [List.getD, hm]; rfl] at t
                      exact t
                    have hg9b : base ≤ g9 := (hyes5.lt g9 rfl).1
                    have hWz := hbl.out.size
                    have C34 : Hid (∀ w', Below wz.heap.size wz w' → Calls Try.prog 34 #[.pointer (some ⟨B, 0, none⟩), .int .i64 (K k), .int .i64 (R k), .int .i64 (S k)] w' fun e w'' => e = .returned (.bool false) ∧ Chg B M w' w'' ∧ BankAt w'' B M lim (bst lim K R S (k + 1)).2 (bst lim K R S (k + 1)).1) := Lib.hid fun w' hq => bask_step (by rw [hE.out, hA.out]; exact hb.out.keep hq) hwk.out (by omega) hm
                    have C35 : Hid (∀ w', BankAt w' B M lim (bst lim K R S (k + 1)).2 (bst lim K R S (k + 1)).1 → Calls Try.prog 35 #[.pointer (some ⟨B, 0, none⟩)] w' fun e w'' => e = .returned (.int .i64 (A)) ∧ w'' = w') := Lib.hid fun w' h => by rw [hA2] at h; exact all_any h
                    have C36 : Hid (∀ w', BankAt w' B M lim (bst lim K R S (k + 1)).2 (bst lim K R S (k + 1)).1 → Calls Try.prog 36 #[.pointer (some ⟨B, 0, none⟩)] w' fun e w'' => e = .returned (.int .i64 (bst lim K R S (k + 1)).1.length) ∧ w'' = w') := Lib.hid fun w' h => keys_any h
                    have KS : Hid (∀ w', Chg B M wz w' → w'.cell? ⟨X, 0, none⟩ = some (.int .i64 (K k)) ∧ w'.cell? ⟨X, 1, none⟩ = some (.int .i64 (R k)) ∧ w'.cell? ⟨X, 2, none⟩ = some (.int .i64 (S k)) ∧ w'.cell? ⟨g9, o9 + E.length, none⟩ = some (.bool false)) := Lib.hid fun w' hq => ⟨(World.cell?_of_block (a := ⟨X, 0, none⟩) (hq.block X hXl (by omega) (by omega))).trans x0, (World.cell?_of_block (a := ⟨X, 1, none⟩) (hq.block X hXl (by omega) (by omega))).trans x1, (World.cell?_of_block (a := ⟨X, 2, none⟩) (hq.block X hXl (by omega) (by omega))).trans x2, (World.cell?_of_block (a := ⟨g9, o9 + E.length, none⟩) (hq.block g9 hg9 (by omega) (by omega))).trans cu⟩
                    have hatl' : ((E.length : Nat) : Int) < ((bst lim K R S (k + 1)).1.length : Int) := by omega
                    replace hown5 := Lib.hid hown5
                    replace hyes5 := Lib.hid hyes5
                    replace hap5 := Lib.hid hap5
                    clear hm hc9 hP7 hY9 hE1
                    generalize hE2 : (bst lim K R S (k + 1)).1 = E2 at *
                    replace hE2 := Lib.hid hE2
                    replace hA2 := Lib.hid hA2
                    go_region_held3 (fun w' => w'.cell? ⟨X, 0, none⟩ = some (.int .i64 (K k)) ∧ w'.cell? ⟨X, 1, none⟩ = some (.int .i64 (R k)) ∧ w'.cell? ⟨X, 2, none⟩ = some (.int .i64 (S k)) ∧ w'.cell? ⟨g9, o9 + E.length, none⟩ = some (.bool false))
                      (first
                        | exact KS.out _ Chg.drew
                        | exact KS.out _ hc6
                        | go_keep)
                      (first
                        | (go_at_call 34; refine (C34.out _ (Below.drew (Below.refl _ _))).mono ?_; rintro e w6 ⟨rfl, hc5, h6⟩; replace h6 := Lib.hid h6; have hc6 : Chg B M wz w6 := Chg.drew.trans hc5)
                        | (go_at_call 35; refine (C35.out _ h6.out).mono ?_; rintro e w7 ⟨rfl, rfl⟩)
                        | (go_at_call 36; refine (C36.out _ h6.out).mono ?_; rintro e w7 ⟨rfl, rfl⟩))
                    all_goals
                      have hfin := Lib.hid (hbl.out.trans (hc6.below hWz hgB hgM))
                      have hfs := hc6.size
                      have hfo := Lib.hid (owns_chg hown5.out hc6 hB2 hM2)
                      have hfy := Lib.hid (owns_chg hyes5.out hc6 hB2 hM2)
                      go_wp2_with fail
                      go_roundw
                      case rel => exact ⟨k + 1, by omega, by go_num, by rw [hA2.out], by rw [hE2.out]; exact hfo.out, by rw [hE2.out]; exact hfy.out, hap5.out, by rw [hE2.out]; exact h6.out, hfin.out, by omega⟩
                      case measure => simp [intOf]; omega
                · have q3 : True := trivial
                  have hmy : mayB lim A (S k) = false := (by simp [mayB, q1, q2, q3])
                  have hkey' : keyIn (bst lim K R S k).1 (K k) = false := by rw [hE.out]; exact hkey
                  have hE1 : (bst lim K R S (k + 1)).1 = E ++ [(K k, R k, S k, false)] := by rw [bst_new lim K R S hkey', hE.out, hA.out, hmy]
                  have hA2 : (bst lim K R S (k + 1)).2 = A := by rw [bst_new lim K R S hkey', hA.out, hmy]; rfl
                  clear hmy hkey'
                  go_upto_region 23 with (first
                    | (at_builtin; refine wpList_append_own_at _ rfl _ _ 59 rfl base 4 i4 (.bool false) 1 1 Try.underlying59 hi4 hz4 hz5 hz6 rfl (by decide) _ _ _ rfl (hyesw.out.alloc _) ⟨ww.heap.size, 0, none⟩ 1 1 [.bool false] rfl rfl (cell_one_new _ _ _) (fun x hx => by simp at hx; subst hx; rfl) (by unfold maxLen; omega) (by omega) (by simp; omega) ?_; intro v8 w6 hown8 hgrow8 hnil8 hwho8))
                  replace hgrow8 : (ww.alloc (.cells #[.bool false] 4)).grownBy w6 (Value.slice a8 E.length c8).ownBlock := hgrow8
                  replace hwho8 : v8.ownBlock = (Value.slice a8 E.length c8).ownBlock ∨ v8.ownBlock = some (ww.heap.size + 1) := by
                    rcases hwho8 with e | e
                    · exact Or.inl e
                    · exact Or.inr (e.trans (by simp))
                  have hb6 : Below base ww w6 := ((Below.refl _ _).alloc (by omega) (.cells #[.bool false] 4)).trans (below_grown hgrow8 (fun g hg => (hgY.out g hg).1) (by simp; omega))
                  have hcX6 : ∀ o, w6.cell? ⟨X, o, none⟩ = ww.cell? ⟨X, o, none⟩ := fun o => (World.cell?_of_block (a := ⟨X, o, none⟩) (hgrow8.block X (by simp; omega) (fun e => by have := (hgY.out X e.symm).2; omega))).trans (((Below.refl ww.heap.size ww).alloc (Nat.le_refl _) _).cell (p := ⟨X, o, none⟩) hXl)
                  have hown5 : w6.ownsRow base 61 3 v' (bst lim K R S (k + 1)).1.length (cells3 (bst lim K R S (k + 1)).1) := by
                    rw [hE1, cells3_snoc]
                    have t := (hownw.out.alloc (.cells #[.bool false] 4)).kept hgrow8 hapw.out
                    simpa using t
                  have hyes5 : w6.ownsRow base 4 1 v8 (bst lim K R S (k + 1)).1.length (cellsY (bst lim K R S (k + 1)).1) := by
                    rw [hE1, cellsY_snoc]
                    simpa using hown8
                  have hap5 : v'.ownBlock = none ∨ v'.ownBlock ≠ v8.ownBlock := by
                    rcases hwho8 with e | e
                    · rw [e]; exact hapw.out
                    · cases hv : v'.ownBlock with
                      | none => exact Or.inl rfl
                      | some g =>
                        right
                        rw [e]
                        have := (hownw.out.lt g hv).2
                        intro e2
                        cases e2
                        omega
                  have hm : (bst lim K R S (k + 1)).1[E.length]? = some (K k, R k, S k, false) := by rw [hE1]; simp
                  replace x0 := (hcX6 0).trans x0
                  replace x1 := (hcX6 1).trans x1
                  replace x2 := (hcX6 2).trans x2
                  have hsz6 := hb6.size
                  replace hXl : X < w6.heap.size := by omega
                  replace hbl := Lib.hid (hbl.out.trans (hb6.mono (by omega)))
                  replace hb := Lib.hid (hb.out.low hB2 hM2 hb6)
                  clear hown8 hgrow8 hnil8 hwho8 hcX6 hb6 hyesw hownw hapw hi4 hz4 hz5 hz6
                  generalize ww = wold6 at *
                  generalize w6 = wz at *
                  go_upto_region 25 with fail

                  have hatl : E.length < (bst lim K R S (k + 1)).1.length := (List.getElem?_eq_some_iff.1 hm).1
                  obtain ⟨a7, c7, rfl, hP7⟩ := trips_of_row hown5
                  obtain ⟨a9, c9, rfl, hY9⟩ := bools_of_row hyes5
                  obtain ⟨g9, o9, rfl, hg9, hc9⟩ := hY9.2 (by omega)
                  have cu : wz.cell? ⟨g9, o9 + E.length, none⟩ = some (.bool false) := by
                    have t : wz.cell? ⟨g9, o9 + E.length, none⟩ = some (.bool ((bst lim K R S (k + 1)).1.getD (E.length) dd).2.2.2) := hc9 _ hatl
                    rw [show (bst lim K R S (k + 1)).1.getD (E.length) dd = _ from by simp [List.getD, hm]; rfl] at t
                    exact t
                  have hg9b : base ≤ g9 := (hyes5.lt g9 rfl).1
                  have hWz := hbl.out.size
                  have C34 : Hid (∀ w', Below wz.heap.size wz w' → Calls Try.prog 34 #[.pointer (some ⟨B, 0, none⟩), .int .i64 (K k), .int .i64 (R k), .int .i64 (S k)] w' fun e w'' => e = .returned (.bool false) ∧ Chg B M w' w'' ∧ BankAt w'' B M lim (bst lim K R S (k + 1)).2 (bst lim K R S (k + 1)).1) := Lib.hid fun w' hq => bask_step (by rw [hE.out, hA.out]; exact hb.out.keep hq) hwk.out (by omega) hm
                  have C35 : Hid (∀ w', BankAt w' B M lim (bst lim K R S (k + 1)).2 (bst lim K R S (k + 1)).1 → Calls Try.prog 35 #[.pointer (some ⟨B, 0, none⟩)] w' fun e w'' => e = .returned (.int .i64 (A)) ∧ w'' = w') := Lib.hid fun w' h => by rw [hA2] at h; exact all_any h
                  have C36 : Hid (∀ w', BankAt w' B M lim (bst lim K R S (k + 1)).2 (bst lim K R S (k + 1)).1 → Calls Try.prog 36 #[.pointer (some ⟨B, 0, none⟩)] w' fun e w'' => e = .returned (.int .i64 (bst lim K R S (k + 1)).1.length) ∧ w'' = w') := Lib.hid fun w' h => keys_any h
                  have KS : Hid (∀ w', Chg B M wz w' → w'.cell? ⟨X, 0, none⟩ = some (.int .i64 (K k)) ∧ w'.cell? ⟨X, 1, none⟩ = some (.int .i64 (R k)) ∧ w'.cell? ⟨X, 2, none⟩ = some (.int .i64 (S k)) ∧ w'.cell? ⟨g9, o9 + E.length, none⟩ = some (.bool false)) := Lib.hid fun w' hq => ⟨(World.cell?_of_block (a := ⟨X, 0, none⟩) (hq.block X hXl (by omega) (by omega))).trans x0, (World.cell?_of_block (a := ⟨X, 1, none⟩) (hq.block X hXl (by omega) (by omega))).trans x1, (World.cell?_of_block (a := ⟨X, 2, none⟩) (hq.block X hXl (by omega) (by omega))).trans x2, (World.cell?_of_block (a := ⟨g9, o9 + E.length, none⟩) (hq.block g9 hg9 (by omega) (by omega))).trans cu⟩
                  have hatl' : ((E.length : Nat) : Int) < ((bst lim K R S (k + 1)).1.length : Int) := by omega
                  replace hown5 := Lib.hid hown5
                  replace hyes5 := Lib.hid hyes5
                  replace hap5 := Lib.hid hap5
                  clear hm hc9 hP7 hY9 hE1
                  generalize hE2 : (bst lim K R S (k + 1)).1 = E2 at *
                  replace hE2 := Lib.hid hE2
                  replace hA2 := Lib.hid hA2
                  go_region_held3 (fun w' => w'.cell? ⟨X, 0, none⟩ = some (.int .i64 (K k)) ∧ w'.cell? ⟨X, 1, none⟩ = some (.int .i64 (R k)) ∧ w'.cell? ⟨X, 2, none⟩ = some (.int .i64 (S k)) ∧ w'.cell? ⟨g9, o9 + E.length, none⟩ = some (.bool false))
                    (first
                      | exact KS.out _ Chg.drew
                      | exact KS.out _ hc6
                      | go_keep)
                    (first
                      | (go_at_call 34; refine (C34.out _ (Below.drew (Below.refl _ _))).mono ?_; rintro e w6 ⟨rfl, hc5, h6⟩; replace h6 := Lib.hid h6; have hc6 : Chg B M wz w6 := Chg.drew.trans hc5)
                      | (go_at_call 35; refine (C35.out _ h6.out).mono ?_; rintro e w7 ⟨rfl, rfl⟩)
                      | (go_at_call 36; refine (C36.out _ h6.out).mono ?_; rintro e w7 ⟨rfl, rfl⟩))
                  all_goals
                    have hfin := Lib.hid (hbl.out.trans (hc6.below hWz hgB hgM))
                    have hfs := hc6.size
                    have hfo := Lib.hid (owns_chg hown5.out hc6 hB2 hM2)
                    have hfy := Lib.hid (owns_chg hyes5.out hc6 hB2 hM2)
                    go_wp2_with fail
                    go_roundw
                    case rel => exact ⟨k + 1, by omega, by go_num, by rw [hA2.out], by rw [hE2.out]; exact hfo.out, by rw [hE2.out]; exact hfy.out, hap5.out, by rw [hE2.out]; exact h6.out, hfin.out, by omega⟩
                    case measure => simp [intOf]; omega
              · have q2 : True := trivial
                have q3 : True := trivial
                have hmy : mayB lim A (S k) = false := (by simp [mayB, q1, q2, q3])
                have hkey' : keyIn (bst lim K R S k).1 (K k) = false := by rw [hE.out]; exact hkey
                have hE1 : (bst lim K R S (k + 1)).1 = E ++ [(K k, R k, S k, false)] := by rw [bst_new lim K R S hkey', hE.out, hA.out, hmy]
                have hA2 : (bst lim K R S (k + 1)).2 = A := by rw [bst_new lim K R S hkey', hA.out, hmy]; rfl
                clear hmy hkey'
                go_upto_region 23 with (first
                  | (at_builtin; refine wpList_append_own_at _ rfl _ _ 59 rfl base 4 i4 (.bool false) 1 1 Try.underlying59 hi4 hz4 hz5 hz6 rfl (by decide) _ _ _ rfl (hyesw.out.alloc _) ⟨ww.heap.size, 0, none⟩ 1 1 [.bool false] rfl rfl (cell_one_new _ _ _) (fun x hx => by simp at hx; subst hx; rfl) (by unfold maxLen; omega) (by omega) (by simp; omega) ?_; intro v8 w6 hown8 hgrow8 hnil8 hwho8))
                replace hgrow8 : (ww.alloc (.cells #[.bool false] 4)).grownBy w6 (Value.slice a8 E.length c8).ownBlock := hgrow8
                replace hwho8 : v8.ownBlock = (Value.slice a8 E.length c8).ownBlock ∨ v8.ownBlock = some (ww.heap.size + 1) := by
                  rcases hwho8 with e | e
                  · exact Or.inl e
                  · exact Or.inr (e.trans (by simp))
                have hb6 : Below base ww w6 := ((Below.refl _ _).alloc (by omega) (.cells #[.bool false] 4)).trans (below_grown hgrow8 (fun g hg => (hgY.out g hg).1) (by simp; omega))
                have hcX6 : ∀ o, w6.cell? ⟨X, o, none⟩ = ww.cell? ⟨X, o, none⟩ := fun o => (World.cell?_of_block (a := ⟨X, o, none⟩) (hgrow8.block X (by simp; omega) (fun e => by have := (hgY.out X e.symm).2; omega))).trans (((Below.refl ww.heap.size ww).alloc (Nat.le_refl _) _).cell (p := ⟨X, o, none⟩) hXl)
                have hown5 : w6.ownsRow base 61 3 v' (bst lim K R S (k + 1)).1.length (cells3 (bst lim K R S (k + 1)).1) := by
                  rw [hE1, cells3_snoc]
                  have t := (hownw.out.alloc (.cells #[.bool false] 4)).kept hgrow8 hapw.out
                  simpa using t
                have hyes5 : w6.ownsRow base 4 1 v8 (bst lim K R S (k + 1)).1.length (cellsY (bst lim K R S (k + 1)).1) := by
                  rw [hE1, cellsY_snoc]
                  simpa using hown8
                have hap5 : v'.ownBlock = none ∨ v'.ownBlock ≠ v8.ownBlock := by
                  rcases hwho8 with e | e
                  · rw [e]; exact hapw.out
                  · cases hv : v'.ownBlock with
                    | none => exact Or.inl rfl
                    | some g =>
                      right
                      rw [e]
                      have := (hownw.out.lt g hv).2
                      intro e2
                      cases e2
                      omega
                have hm : (bst lim K R S (k + 1)).1[E.length]? = some (K k, R k, S k, false) := by rw [hE1]; simp
                replace x0 := (hcX6 0).trans x0
                replace x1 := (hcX6 1).trans x1
                replace x2 := (hcX6 2).trans x2
                have hsz6 := hb6.size
                replace hXl : X < w6.heap.size := by omega
                replace hbl := Lib.hid (hbl.out.trans (hb6.mono (by omega)))
                replace hb := Lib.hid (hb.out.low hB2 hM2 hb6)
                clear hown8 hgrow8 hnil8 hwho8 hcX6 hb6 hyesw hownw hapw hi4 hz4 hz5 hz6
                generalize ww = wold6 at *
                generalize w6 = wz at *
                go_upto_region 25 with fail

                have hatl : E.length < (bst lim K R S (k + 1)).1.length := (List.getElem?_eq_some_iff.1 hm).1
                obtain ⟨a7, c7, rfl, hP7⟩ := trips_of_row hown5
                obtain ⟨a9, c9, rfl, hY9⟩ := bools_of_row hyes5
                obtain ⟨g9, o9, rfl, hg9, hc9⟩ := hY9.2 (by omega)
                have cu : wz.cell? ⟨g9, o9 + E.length, none⟩ = some (.bool false) := by
                  have t : wz.cell? ⟨g9, o9 + E.length, none⟩ = some (.bool ((bst lim K R S (k + 1)).1.getD (E.length) dd).2.2.2) := hc9 _ hatl
                  rw [show (bst lim K R S (k + 1)).1.getD (E.length) dd = _ from by simp [List.getD, hm]; rfl] at t
                  exact t
                have hg9b : base ≤ g9 := (hyes5.lt g9 rfl).1
                have hWz := hbl.out.size
                have C34 : Hid (∀ w', Below wz.heap.size wz w' → Calls Try.prog 34 #[.pointer (some ⟨B, 0, none⟩), .int .i64 (K k), .int .i64 (R k), .int .i64 (S k)] w' fun e w'' => e = .returned (.bool false) ∧ Chg B M w' w'' ∧ BankAt w'' B M lim (bst lim K R S (k + 1)).2 (bst lim K R S (k + 1)).1) := Lib.hid fun w' hq => bask_step (by rw [hE.out, hA.out]; exact hb.out.keep hq) hwk.out (by omega) hm
                have C35 : Hid (∀ w', BankAt w' B M lim (bst lim K R S (k + 1)).2 (bst lim K R S (k + 1)).1 → Calls Try.prog 35 #[.pointer (some ⟨B, 0, none⟩)] w' fun e w'' => e = .returned (.int .i64 (A)) ∧ w'' = w') := Lib.hid fun w' h => by rw [hA2] at h; exact all_any h
                have C36 : Hid (∀ w', BankAt w' B M lim (bst lim K R S (k + 1)).2 (bst lim K R S (k + 1)).1 → Calls Try.prog 36 #[.pointer (some ⟨B, 0, none⟩)] w' fun e w'' => e = .returned (.int .i64 (bst lim K R S (k + 1)).1.length) ∧ w'' = w') := Lib.hid fun w' h => keys_any h
                have KS : Hid (∀ w', Chg B M wz w' → w'.cell? ⟨X, 0, none⟩ = some (.int .i64 (K k)) ∧ w'.cell? ⟨X, 1, none⟩ = some (.int .i64 (R k)) ∧ w'.cell? ⟨X, 2, none⟩ = some (.int .i64 (S k)) ∧ w'.cell? ⟨g9, o9 + E.length, none⟩ = some (.bool false)) := Lib.hid fun w' hq => ⟨(World.cell?_of_block (a := ⟨X, 0, none⟩) (hq.block X hXl (by omega) (by omega))).trans x0, (World.cell?_of_block (a := ⟨X, 1, none⟩) (hq.block X hXl (by omega) (by omega))).trans x1, (World.cell?_of_block (a := ⟨X, 2, none⟩) (hq.block X hXl (by omega) (by omega))).trans x2, (World.cell?_of_block (a := ⟨g9, o9 + E.length, none⟩) (hq.block g9 hg9 (by omega) (by omega))).trans cu⟩
                have hatl' : ((E.length : Nat) : Int) < ((bst lim K R S (k + 1)).1.length : Int) := by omega
                replace hown5 := Lib.hid hown5
                replace hyes5 := Lib.hid hyes5
                replace hap5 := Lib.hid hap5
                clear hm hc9 hP7 hY9 hE1
                generalize hE2 : (bst lim K R S (k + 1)).1 = E2 at *
                replace hE2 := Lib.hid hE2
                replace hA2 := Lib.hid hA2
                go_region_held3 (fun w' => w'.cell? ⟨X, 0, none⟩ = some (.int .i64 (K k)) ∧ w'.cell? ⟨X, 1, none⟩ = some (.int .i64 (R k)) ∧ w'.cell? ⟨X, 2, none⟩ = some (.int .i64 (S k)) ∧ w'.cell? ⟨g9, o9 + E.length, none⟩ = some (.bool false))
                  (first
                    | exact KS.out _ Chg.drew
                    | exact KS.out _ hc6
                    | go_keep)
                  (first
                    | (go_at_call 34; refine (C34.out _ (Below.drew (Below.refl _ _))).mono ?_; rintro e w6 ⟨rfl, hc5, h6⟩; replace h6 := Lib.hid h6; have hc6 : Chg B M wz w6 := Chg.drew.trans hc5)
                    | (go_at_call 35; refine (C35.out _ h6.out).mono ?_; rintro e w7 ⟨rfl, rfl⟩)
                    | (go_at_call 36; refine (C36.out _ h6.out).mono ?_; rintro e w7 ⟨rfl, rfl⟩))
                all_goals
                  have hfin := Lib.hid (hbl.out.trans (hc6.below hWz hgB hgM))
                  have hfs := hc6.size
                  have hfo := Lib.hid (owns_chg hown5.out hc6 hB2 hM2)
                  have hfy := Lib.hid (owns_chg hyes5.out hc6 hB2 hM2)
                  go_wp2_with fail
                  go_roundw
                  case rel => exact ⟨k + 1, by omega, by go_num, by rw [hA2.out], by rw [hE2.out]; exact hfo.out, by rw [hE2.out]; exact hfy.out, hap5.out, by rw [hE2.out]; exact h6.out, hfin.out, by omega⟩
                  case measure => simp [intOf]; omega
            · obtain ⟨at_, rfl, hp, hpk⟩ : ∃ p : Nat, an = p ∧ p < E.length ∧ (E.getD p dd).1 = K k := by
                rcases hfd.out with ⟨h, _⟩ | h
                · exact absurd h han
                · exact h
              have hkey : keyIn E (K k) = true := List.any_eq_true.2 ⟨E[at_], List.getElem_mem hp, by simpa [List.getD, hp] using hpk⟩
              have hB1 : bst lim K R S (k + 1) = bst lim K R S k := bst_old lim K R S (by rw [hE.out]; exact hkey)
              have hE1 : (bst lim K R S (k + 1)).1 = E := by rw [hB1, hE.out]
              have hA2 : (bst lim K R S (k + 1)).2 = A := by rw [hB1, hA.out]
              obtain ⟨r0, s0, y, hm⟩ : ∃ r0 s0 y, (bst lim K R S (k + 1)).1[at_]? = some (K k, r0, s0, y) := ⟨E[at_].2.1, E[at_].2.2.1, E[at_].2.2.2, by rw [hE1, List.getElem?_eq_getElem hp]; simp [← hpk, List.getD, hp]⟩
              have hown5 : wq.ownsRow base 61 3 (.slice a6 E.length c6) (bst lim K R S (k + 1)).1.length (cells3 (bst lim K R S (k + 1)).1) := by rw [hE1]; exact hown.out
              have hyes5 : wq.ownsRow base 4 1 (.slice a8 E.length c8) (bst lim K R S (k + 1)).1.length (cellsY (bst lim K R S (k + 1)).1) := by rw [hE1]; exact hyes.out
              have hap5 := hap.out
              clear hown hyes hap hfd han hp hpk hB1
              go_upto_region 25 with fail
              generalize wq = wz at *
              generalize hv6 : Value.slice a6 E.length c6 = v6 at *
              generalize hv8 : Value.slice a8 E.length c8 = v8 at *
              clear hv6 hv8
              have hatl : at_ < (bst lim K R S (k + 1)).1.length := (List.getElem?_eq_some_iff.1 hm).1
              obtain ⟨a7, c7, rfl, hP7⟩ := trips_of_row hown5
              obtain ⟨a9, c9, rfl, hY9⟩ := bools_of_row hyes5
              obtain ⟨g9, o9, rfl, hg9, hc9⟩ := hY9.2 (by omega)
              have cu : wz.cell? ⟨g9, o9 + at_, none⟩ = some (.bool y) := by
                have t : wz.cell? ⟨g9, o9 + at_, none⟩ = some (.bool ((bst lim K R S (k + 1)).1.getD (at_) dd).2.2.2) := hc9 _ hatl
                rw [show (bst lim K R S (k + 1)).1.getD (at_) dd = _ from by simp [List.getD, hm]; rfl] at t
                exact t
              have hg9b : base ≤ g9 := (hyes5.lt g9 rfl).1
              have hWz := hbl.out.size
              have C34 : Hid (∀ w', Below wz.heap.size wz w' → Calls Try.prog 34 #[.pointer (some ⟨B, 0, none⟩), .int .i64 (K k), .int .i64 (R k), .int .i64 (S k)] w' fun e w'' => e = .returned (.bool y) ∧ Chg B M w' w'' ∧ BankAt w'' B M lim (bst lim K R S (k + 1)).2 (bst lim K R S (k + 1)).1) := Lib.hid fun w' hq => bask_step (by rw [hE.out, hA.out]; exact hb.out.keep hq) hwk.out (by omega) hm
              have C35 : Hid (∀ w', BankAt w' B M lim (bst lim K R S (k + 1)).2 (bst lim K R S (k + 1)).1 → Calls Try.prog 35 #[.pointer (some ⟨B, 0, none⟩)] w' fun e w'' => e = .returned (.int .i64 (A)) ∧ w'' = w') := Lib.hid fun w' h => by rw [hA2] at h; exact all_any h
              have C36 : Hid (∀ w', BankAt w' B M lim (bst lim K R S (k + 1)).2 (bst lim K R S (k + 1)).1 → Calls Try.prog 36 #[.pointer (some ⟨B, 0, none⟩)] w' fun e w'' => e = .returned (.int .i64 (bst lim K R S (k + 1)).1.length) ∧ w'' = w') := Lib.hid fun w' h => keys_any h
              have KS : Hid (∀ w', Chg B M wz w' → w'.cell? ⟨X, 0, none⟩ = some (.int .i64 (K k)) ∧ w'.cell? ⟨X, 1, none⟩ = some (.int .i64 (R k)) ∧ w'.cell? ⟨X, 2, none⟩ = some (.int .i64 (S k)) ∧ w'.cell? ⟨g9, o9 + at_, none⟩ = some (.bool y)) := Lib.hid fun w' hq => ⟨(World.cell?_of_block (a := ⟨X, 0, none⟩) (hq.block X hXl (by omega) (by omega))).trans x0, (World.cell?_of_block (a := ⟨X, 1, none⟩) (hq.block X hXl (by omega) (by omega))).trans x1, (World.cell?_of_block (a := ⟨X, 2, none⟩) (hq.block X hXl (by omega) (by omega))).trans x2, (World.cell?_of_block (a := ⟨g9, o9 + at_, none⟩) (hq.block g9 hg9 (by omega) (by omega))).trans cu⟩
              have hatl' : ((at_ : Nat) : Int) < ((bst lim K R S (k + 1)).1.length : Int) := by omega
              replace hown5 := Lib.hid hown5
              replace hyes5 := Lib.hid hyes5
              replace hap5 := Lib.hid hap5
              clear hm hc9 hP7 hY9 hE1
              generalize hE2 : (bst lim K R S (k + 1)).1 = E2 at *
              replace hE2 := Lib.hid hE2
              replace hA2 := Lib.hid hA2
              go_region_held3 (fun w' => w'.cell? ⟨X, 0, none⟩ = some (.int .i64 (K k)) ∧ w'.cell? ⟨X, 1, none⟩ = some (.int .i64 (R k)) ∧ w'.cell? ⟨X, 2, none⟩ = some (.int .i64 (S k)) ∧ w'.cell? ⟨g9, o9 + at_, none⟩ = some (.bool y))
                (first
                  | exact KS.out _ Chg.drew
                  | exact KS.out _ hc6
                  | go_keep)
                (first
                  | (go_at_call 34; refine (C34.out _ (Below.drew (Below.refl _ _))).mono ?_; rintro e w6 ⟨rfl, hc5, h6⟩; replace h6 := Lib.hid h6; have hc6 : Chg B M wz w6 := Chg.drew.trans hc5)
                  | (go_at_call 35; refine (C35.out _ h6.out).mono ?_; rintro e w7 ⟨rfl, rfl⟩)
                  | (go_at_call 36; refine (C36.out _ h6.out).mono ?_; rintro e w7 ⟨rfl, rfl⟩))
              all_goals
                have hfin := Lib.hid (hbl.out.trans (hc6.below hWz hgB hgM))
                have hfs := hc6.size
                have hfo := Lib.hid (owns_chg hown5.out hc6 hB2 hM2)
                have hfy := Lib.hid (owns_chg hyes5.out hc6 hB2 hM2)
                go_wp2_with fail
                go_roundw
                case rel => exact ⟨k + 1, by omega, by go_num, by rw [hA2.out], by rw [hE2.out]; exact hfo.out, by rw [hE2.out]; exact hfy.out, hap5.out, by rw [hE2.out]; exact h6.out, hfin.out, by omega⟩
                case measure => simp [intOf]; omega
      · obtain rfl : k = n := by omega
        have hlt' : ¬ (k : Int) < k := by omega
        obtain ⟨a6, c6, rfl, hP⟩ := trips_of_row hown
        obtain ⟨a8, c8, rfl, hY⟩ := bools_of_row hyes
        have hV := Lib.hid (binv lim K R S k)
        have hlen := hV.out.len
        replace hb := Lib.hid hb
        replace hbl := Lib.hid hbl
        replace hP := Lib.hid hP
        replace hY := Lib.hid hY
        clear hown hyes hap h2 bb2
        generalize (bst lim K R S k).1 = E at *
        generalize (bst lim K R S k).2 = A at *
        generalize wr = wn at *
        go_wp2_with fail
        go_loopw [113] (fun i w3 => ∃ k2 : Nat, k2 ≤ k ∧ i = .int .i64 k2 ∧ BankAt w3 B M lim A E ∧ Below wn.heap.size wn w3) (fun i _ => k - (intOf i).toNat)
        case atStart => exact ⟨0, Nat.zero_le _, rfl, hb.out, Below.refl _ _⟩
        case round =>
          obtain ⟨k2, hk2, rfl, hb3, hbl3⟩ := hrel
          by_cases hl2 : k2 < k
          · obtain ⟨b, o, rfl, hbb, hc⟩ := HS.out.2 (by omega)
            have hbw := hbl.out.trans (hbl3.mono hbl.out.size)
            have cr : wr.cell? ⟨b, o + k2 * 3 + 1, none⟩ = some (.int .i64 (R k2)) := (hbw.cell (p := ⟨b, o + k2 * 3 + 1, none⟩) hbb).trans (hc k2 hl2).2.1
            have hl2' : (k2 : Int) < k := by omega
            replace hb3 := Lib.hid hb3
            replace hbw := Lib.hid hbw
            replace hbl3 := Lib.hid hbl3
            clear hc
            generalize wr = wm at *
            generalize R k2 = r at *
            have hx := Lib.hid (hV.out.exec r)
            go_wp2_with fail
            go_loopw [15, 118] (fun cnt j w4 => ∃ jj q : Nat, jj ≤ E.length ∧ cnt = .int .i64 (total (fB r) (E.take jj)) ∧ j = .int .i64 jj ∧ w4 = wm.drewN q) (fun _ j _ => E.length - (intOf j).toNat)
            case atStart => exact ⟨0, 0, Nat.zero_le _, rfl, rfl, rfl⟩
            case round =>
              obtain ⟨jj, q, hjj, rfl, rfl, rfl⟩ := hrel
              by_cases hjl : jj < E.length
              · obtain ⟨g6, o6, rfl, hg6, hc6⟩ := hP.out.2 (by omega)
                obtain ⟨g8, o8, rfl, hg8, hc8⟩ := hY.out.2 (by omega)
                have cj1 : wm.cell? ⟨g6, o6 + jj * 3 + 1, none⟩ = some (.int .i64 (E.getD jj dd).2.1) := (hbl3.out.cell (p := ⟨g6, o6 + jj * 3 + 1, none⟩) hg6).trans (hc6 jj hjl).2.1
                have cj2 : wm.cell? ⟨g6, o6 + jj * 3 + 2, none⟩ = some (.int .i64 (E.getD jj dd).2.2.1) := (hbl3.out.cell (p := ⟨g6, o6 + jj * 3 + 2, none⟩) hg6).trans (hc6 jj hjl).2.2
                have cjy : wm.cell? ⟨g8, o8 + jj, none⟩ = some (.bool (E.getD jj dd).2.2.2) := (hbl3.out.cell (p := ⟨g8, o8 + jj, none⟩) hg8).trans (hc8 jj hjl)
                have hge : E[jj]? = some (E.getD jj dd) := by simp [List.getD, hjl]
                have hjl' : (jj : Int) < E.length := by omega
                have hts := total_take_succ (fB r) E jj _ hge
                have hbd := hx.out.2 jj
                have hbd2 := hx.out.2 (jj + 1)
                rw [hts] at hbd2
                replace hts := Lib.hid hts
                clear hc6 hc8 hge
                generalize E.getD jj dd = p at *
                obtain ⟨p0, u, sm, y⟩ := p
                simp only at cj1 cj2 cjy
                generalize total (fB r) (E.take jj) = T at *
                have hwv : Hid (∀ nq, (wm.drewN q).drewN nq = wm.drewN (q + nq)) := Lib.hid fun nq => by simp
                replace cj1 : (wm.drewN q).cell? ⟨g6, o6 + jj * 3 + 1, none⟩ = some (.int .i64 u) := cj1
                replace cj2 : (wm.drewN q).cell? ⟨g6, o6 + jj * 3 + 2, none⟩ = some (.int .i64 sm) := cj2
                replace cjy : (wm.drewN q).cell? ⟨g8, o8 + jj, none⟩ = some (.bool y) := cjy
                have crv : (wm.drewN q).cell? ⟨b, o + k2 * 3 + 1, none⟩ = some (.int .i64 r) := cr
                generalize hwq : wm.drewN q = wv at *
                replace hwq := Lib.hid hwq
                cases y
                · clear hbd2
                  go_wp2_with fail
                  go_quiet (fail)
                  go_wp2_with fail
                  go_roundw
                  case rel => exact ⟨jj + 1, q + nq, by omega, by rw [hts.out]; simp [fB], by go_num, hwv.out _⟩
                  case measure => simp [intOf]; omega
                · cases hur : (u == r)
                  · clear hbd2
                    go_wp2_with fail
                    go_quiet (fail)
                    go_wp2_with fail
                    go_roundw
                    case rel => exact ⟨jj + 1, q + nq, by omega, by rw [hts.out]; simp [fB, hur], by go_num, hwv.out _⟩
                    case measure => simp [intOf]; omega
                  · have hw1 : wrap64 (T + sm) = T + sm := by
                      simp [fB, hur] at hbd2
                      unfold wrap64
                      omega
                    clear hbd2
                    go_wp2_with fail
                    go_quiet (fail)
                    have cj3 : (wv.drewN nq).cell? ⟨g6, o6 + jj * 3 + 2, none⟩ = some (.int .i64 sm) := cj2
                    go_wp2_with fail
                    go_roundw
                    case rel => exact ⟨jj + 1, q + nq, by omega, by rw [hts.out]; simp [fB, hur, hw1], by go_num, hwv.out _⟩
                    case measure => simp [intOf]; omega
              · obtain rfl : jj = E.length := by omega
                have hjl' : ¬ (E.length : Int) < E.length := by omega
                have C37 := Lib.hid (exec_any (hb3.out.keep (below_dn _ wm q)) r hx.out.1 (by have := (hx.out.2 E.length).2; rw [List.take_length] at this; exact this))
                have crq : (wm.drewN q).cell? ⟨b, o + k2 * 3 + 1, none⟩ = some (.int .i64 r) := cr
                replace hb3 := Lib.hid (hb3.out.keep (below_dn _ wm q))
                replace hbl3 := Lib.hid (hbl3.out.trans (below_dn _ wm q))
                rw [List.take_length]
                clear cr
                generalize wm.drewN q = wq at *
                generalize total (fB r) E = T at *
                go_wp2_with fail
                refine C37.out.mono ?_
                rintro e w5 ⟨rfl, hb5⟩
                have h6 := Lib.hid (hb3.out.keep hb5)
                have hb7 := Lib.hid (hbl3.out.trans (hb5.mono hbl3.out.size))
                go_wp2_with fail
                go_roundw
                case rel => exact ⟨k2 + 1, by omega, by go_num, h6.out, hb7.out⟩
                case measure => simp [intOf]; omega
          · obtain rfl : k2 = k := by omega
            have hl2' : ¬ (k2 : Int) < k2 := by omega
            go_wp2_with fail
            go_ret
            exact ⟨rfl, hbl.out.trans (hbl3.mono hbl.out.size)⟩

end Go.Proofs.Ytmdkclgmibjlfaa.Ba
