/- Whatever is asked of any bytes: lemmas. -/
import Derived.Test.YtnkgbigjpihfeaaKa
import Derived.Maps.AppendAt
import Derived.Laws.AppendOwnNone
set_option linter.unusedVariables false
set_option linter.unusedSimpArgs false
namespace Go.Proofs.Ytnkgbigjpihfeaa.Kd
open Go.RowKit Go.Proofs.Ytnkgbigjpihfeaa.Lib

theorem left24 (w : World) (a : Option Addr) (n c : Nat) (bad : Bool) : Calls Try.prog 24 #[.slice a n c, .bool bad] w fun e w' => e = .returned (.int .i64 (if bad = true then 0 else (n : Int))) ∧ w' = w := by
  cases bad with
  | true =>
    go_enter Try.func24, Try.ntmps24
    go_wp2_with fail
    go_ret
    exact ⟨rfl, rfl⟩
  | false =>
    go_enter Try.func24, Try.ntmps24
    go_wp2_with fail
    go_ret
    exact ⟨rfl, rfl⟩

/-- What is left of the bytes, as the law has it. -/
structure RestAt (w : World) (I : Nat) (a : Option Addr) (n c : Nat) (L : List Int) : Prop where
  ints : IntsAt w .u8 a n (gtD L)
  len : n = L.length
  room : n ≤ c
  big : c ≤ maxLen
  far : ∀ p, a = some p → p.block ≠ I
  nil : a = none → n = 0 ∧ c = 0
  ok : okB L

def cur (L : List Int) (bad : Bool) : List Int := if bad = true then [] else L

/-- Bytes appended to an own row, wherever they lie. -/
theorem append_bytes {w : World} {ops : Array Oper} {rest : List Oper} {o : Oper} {a : Act} {Q : Exit → Act → World → Prop} (hgd : o.guard = none) (s x : Operand)
    (ho : o.op = .call { callee := .builtin .append, args := #[s, x], argTypes := #[22, 22] }) (base : Nat) (v : Value) (l : List Int) (hs : a.eval s = v) (hown : w.ownsRow base 5 1 v l.length (bts l))
    (ad : Option Addr) (m c : Nat) (F : Nat → Int) (hx : a.eval x = .slice ad m c) (hi : IntsAt w .u8 ad m F) (hn : ad = none → m = 0 ∧ c = 0) (hb : l.length + m ≤ 1000000) (hbase : base ≤ w.heap.size)
    (h : ∀ v' w', w'.ownsRow base 5 1 v' (l ++ lof m F).length (bts (l ++ lof m F)) → w.grownBy w' v.ownBlock → (v'.ownBlock = v.ownBlock ∨ v'.ownBlock = some w.heap.size) → wpList Try.prog ops Q rest (a.put o.dst v') w') :
    wpList Try.prog ops Q (o :: rest) a w := by
  obtain ⟨i5, hi5, hz0, hz1, hz2⟩ := info_parts info5
  cases ad with
  | none =>
    obtain ⟨rfl, rfl⟩ := hn rfl
    refine wpList_append_own_none hgd s x 22 ho base 5 i5 1 Try.underlying22 hi5 v l.length (bts l) hs hown hx ?_
    exact h v w (by simpa [lof] using hown) ⟨rfl, rfl, rfl, Nat.le_refl _, fun _ _ _ => rfl⟩ (Or.inl rfl)
  | some p =>
    have hcl : ∀ j u, (bts (lof m F))[j]? = some u → w.cell? (p.add j) = some u := by
      intro j u hu
      have hj : j < m := by
        have := (List.getElem?_eq_some_iff.1 hu).1
        simpa [bts, lof] using this
      obtain ⟨b, o, e, hb, hc⟩ := hi.2 (by omega)
      cases e
      have hadd : (⟨b, o, none⟩ : Addr).add j = ⟨b, o + j, none⟩ := by unfold Addr.add; split <;> simp_all
      rw [hadd, hc j hj]
      simp [bts, lof, hj] at hu
      rw [← hu]
    have h1c : ∀ u ∈ bts (lof m F), u.oneCell' = true := by
      intro u hu
      simp only [bts, List.mem_map] at hu
      obtain ⟨z, _, rfl⟩ := hu
      rfl
    have hlb : (bts (lof m F)).length = m * 1 := by simp [bts, lof]
    refine wpList_append_own_at w hgd s x 22 ho base 5 i5 (.int .u8 0) 1 1 Try.underlying22 hi5 hz0 hz1 hz2 rfl (by decide) v l.length (bts l) hs hown p m c (bts (lof m F)) hx hlb hcl h1c (by unfold maxLen; omega) (by omega) hbase ?_
    intro v' w' h1 h2 _ h4
    have hb2 : bts l ++ bts (lof m F) = bts (l ++ lof m F) := by simp [bts]
    exact h v' w' (by rw [← hb2, List.length_append, lof_len]; exact h1) h2 h4

theorem own_rest {w : World} {base I : Nat} {v : Value} {l : List Int} (h : w.ownsRow base 5 1 v l.length (bts l)) (hl : l.length ≤ 1000000) (hI : I < base) (hok : okB l) : ∃ a c, v = .slice a l.length c ∧ RestAt w I a l.length c l := by
  rcases h.2 with ⟨rfl, h0⟩ | ⟨g, cap, cur, rfl, hb, hg, hnc, hcm, hcs, ht⟩
  · exact ⟨none, 0, by rw [h0], ⟨⟨by omega, fun hp => absurd hp (by omega)⟩, rfl, by omega, by decide, fun _ e => by (cases e), fun _ => ⟨h0, rfl⟩, hok⟩⟩
  · refine ⟨_, cap, rfl, ⟨⟨by omega, fun hp => ⟨g, 0, rfl, (Array.getElem?_eq_some_iff.1 hg).1, fun j hj => ?_⟩⟩, rfl, hnc, hcm, fun p e => by (cases e; show g ≠ I; omega), fun e => by (cases e), hok⟩⟩
    have := h.cellAt j (by omega)
    simpa [bts, gtD, List.getD, hj] using this

theorem RestAt.grown {w w' : World} {I : Nat} {a : Option Addr} {n c : Nat} {L : List Int} (h : RestAt w I a n c L) (hg : w.grownBy w' (some I)) : RestAt w' I a n c L := by
  refine ⟨⟨h.ints.1, fun hp => ?_⟩, h.len, h.room, h.big, h.far, h.nil, h.ok⟩
  obtain ⟨b, o, e, hb, hc⟩ := h.ints.2 hp
  refine ⟨b, o, e, Nat.lt_of_lt_of_le hb hg.size, fun j hj => (World.cell?_of_block (a := ⟨b, o + j, none⟩) (hg.block b hb (fun e2 => ?_))).trans (hc j hj)⟩
  injection e2 with e2
  exact h.far _ e e2
theorem RestAt.below {w w' : World} {I : Nat} {a : Option Addr} {n c : Nat} {L : List Int} (h : RestAt w I a n c L) (hb : Below w.heap.size w w') : RestAt w' I a n c L := h.grown (grown_of_below hb)
theorem RestAt.take {w : World} {I : Nat} {a : Option Addr} {n c k : Nat} {L : List Int} (h : RestAt w I a n c L) (hk : k ≤ n) : IntsAt w .u8 a k (gtD (L.take k)) := by
  refine ⟨by have := h.ints.1; omega, fun hp => ?_⟩
  obtain ⟨b, o, e, hb, hc⟩ := h.ints.2 (by omega)
  exact ⟨b, o, e, hb, fun j hj => by rw [gtD_take hj]; exact hc j (by omega)⟩
theorem RestAt.takeLen {w : World} {I : Nat} {a : Option Addr} {n c k : Nat} {L : List Int} (h : RestAt w I a n c L) (hk : k ≤ n) : k = (L.take k).length := by
  have := h.len
  simp
  omega

theorem made_below {w w5 : World} {v : Value} (hv : v.ownBlock = some w.heap.size) (h : (w.alloc (.cells #[] 5)).grownBy w5 v.ownBlock) : Below w.heap.size w w5 :=
  ((Below.refl w.heap.size w).alloc (Nat.le_refl _) _).trans ⟨h.os, h.tape, h.output, h.size, fun k hk => h.block k (by simp; omega) (fun e => by
    rw [hv] at e
    injection e with e
    omega)⟩

theorem RestAt.dropA {w : World} {I : Nat} {a a' : Option Addr} {n c c' k : Nat} {L : List Int} (h : RestAt w I a n c L) (hk : n = k) (hc : c' ≤ c) (hn : a' = none → c' = 0) (hp : ∀ p', a' = some p' → ∃ p, a = some p ∧ p'.block = p.block) : RestAt w I a' (n - k) c' (L.drop k) := by
  have hl := h.len
  have hb := h.big
  refine ⟨⟨by omega, fun hp => absurd hp (by omega)⟩, by simp; omega, by omega, by omega, fun p e => ?_, fun e => ⟨by omega, hn e⟩, okB_drop h.ok k⟩
  obtain ⟨p2, e2, hb2⟩ := hp p e
  rw [hb2]
  exact h.far p2 e2
theorem RestAt.dropB {w : World} {I b o : Nat} {n c k : Nat} {L : List Int} (h : RestAt w I (some ⟨b, o, none⟩) n c L) (hk : k ≤ n) : RestAt w I (some ⟨b, o + k, none⟩) (n - k) (c - k) (L.drop k) := by
  have hl := h.len
  have hr := h.room
  have hb := h.big
  have h1 := h.ints.1
  refine ⟨⟨by omega, fun hp => ?_⟩, by simp; omega, by omega, by omega, fun p e => by (cases e; exact h.far ⟨b, o, none⟩ rfl), fun e => by (cases e), okB_drop h.ok k⟩
  obtain ⟨b2, o2, e2, hb2, hc⟩ := h.ints.2 (by omega)
  cases e2
  refine ⟨b, o + k, rfl, hb2, fun j hj => ?_⟩
  rw [gtD_drop, Nat.add_assoc]
  exact hc (k + j) (by omega)
theorem RestAt.nonempty {w : World} {I : Nat} {a : Option Addr} {n c : Nat} {L : List Int} (h : RestAt w I a n c L) (hn : 0 < n) : ∃ b o, a = some ⟨b, o, none⟩ := by
  obtain ⟨b, o, e, _⟩ := h.ints.2 hn
  exact ⟨b, o, e⟩

theorem ok_gtD {L : List Int} (h : okB L) (j : Nat) : 0 ≤ gtD L j ∧ gtD L j < 256 := by
  unfold gtD
  by_cases hj : j < L.length
  · have e : L.getD j 0 = L[j] := by simp [List.getD, hj]
    rw [e]
    exact h _ (List.getElem_mem hj)
  · have e : L.getD j 0 = 0 := by simp [List.getD, List.getElem?_eq_none (Nat.le_of_not_lt hj)]
    rw [e]
    omega
theorem rdN_short {L : List Int} {k : Nat} (h : L.length < k) : rdN L false k = (0, [], true) := by
  unfold rdN
  rw [if_pos (Or.inr h)]
theorem rd_short {k v : Int} {L : List Int} (h0 : k = 0 → L.length < 1) (h1 : k = 1 → L.length < 2) (h2 : k = 2 → L.length < 4) (h3 : k = 3 → L.length < 8) (h4 : k = 4 → L.length < 1) (h5 : k = 5 → L.length < 2)
    (h6 : ¬ (k = 0 ∨ k = 1 ∨ k = 2 ∨ k = 3 ∨ k = 4 ∨ k = 5) → v < 0 ∨ (L.length : Int) < v) : RdOk k v L false 0 [] [] true := by
  refine ⟨fun h => rdN_short (h0 h), fun h => rdN_short (h1 h), fun h => rdN_short (h2 h), fun h => rdN_short (h3 h), fun h => ?_, fun h => ?_, fun h => ?_⟩
  · unfold rdF
    rw [rdN_short (h4 h)]
    simp
  · unfold rdB
    rw [rdN_short (h5 h)]
    simp [rdT]
  · unfold rdT
    rw [if_pos (Or.inr (h6 h))]
theorem rdN_ok {L : List Int} {S : Nat} (h : S ≤ L.length) : rdN L false S = (leL (L.take S), L.drop S, false) := by
  unfold rdN
  rw [if_neg (by simp; omega)]
theorem rd_num {k v : Int} {S : Nat} {L D : List Int} (hk : k = 0 ∧ S = 1 ∨ k = 1 ∧ S = 2 ∨ k = 2 ∧ S = 4 ∨ k = 3 ∧ S = 8) (hl : S ≤ L.length) : RdOk k v L false (leL (L.take S)) D (L.drop S) false := by
  rcases hk with ⟨rfl, rfl⟩ | ⟨rfl, rfl⟩ | ⟨rfl, rfl⟩ | ⟨rfl, rfl⟩
  all_goals
    constructor
    all_goals intro h
    all_goals first | exact rdN_ok hl | exact absurd h (by decide) | exact absurd (by decide) h
theorem rd_flag_over {v : Int} {L D : List Int} (hl : 1 ≤ L.length) (h1 : 1 < leL (L.take 1)) : RdOk 4 v L false (leL (L.take 1)) D [] true := by
  constructor
  all_goals intro h
  all_goals first | exact absurd h (by decide) | exact absurd (by decide) h | skip
  unfold rdF
  rw [rdN_ok hl, if_pos h1]
  simp
  omega
theorem rd_flag_ok {v : Int} {L D : List Int} (hl : 1 ≤ L.length) (h1 : ¬ 1 < leL (L.take 1)) : RdOk 4 v L false (leL (L.take 1)) D (L.drop 1) false := by
  constructor
  all_goals intro h
  all_goals first | exact absurd h (by decide) | exact absurd (by decide) h | skip
  unfold rdF
  rw [rdN_ok hl, if_neg h1]
theorem rd_bytes_over {v : Int} {L : List Int} (hl : 2 ≤ L.length) (h1 : (L.length : Int) - 2 < leL (L.take 2)) : RdOk 5 v L false (leL (L.take 2)) [] [] true := by
  constructor
  all_goals intro h
  all_goals first | exact absurd h (by decide) | exact absurd (by decide) h | skip
  unfold rdB
  rw [rdN_ok hl]
  unfold rdT
  rw [if_pos (Or.inr (Or.inr (by simp; omega)))]
theorem rd_bytes_ok {v : Int} {L : List Int} {vn : Nat} (hl : 2 ≤ L.length) (hv : leL (L.take 2) = vn) (h1 : vn ≤ L.length - 2) : RdOk 5 v L false (leL (L.take 2)) ((L.drop 2).take vn) ((L.drop 2).drop vn) false := by
  constructor
  all_goals intro h
  all_goals first | exact absurd h (by decide) | exact absurd (by decide) h | skip
  unfold rdB
  rw [rdN_ok hl, hv]
  unfold rdT
  rw [if_neg (by simp; omega)]
  simp
theorem rd_plain_ok {k : Int} {L : List Int} {vn : Nat} (hk : ¬ (k = 0 ∨ k = 1 ∨ k = 2 ∨ k = 3 ∨ k = 4 ∨ k = 5)) (h1 : vn ≤ L.length) : RdOk k vn L false 0 (L.take vn) (L.drop vn) false := by
  constructor
  all_goals intro h
  all_goals first | (exfalso; apply hk; simp only [h, true_or, or_true]; done) | skip
  unfold rdT
  rw [if_neg (by simp; omega)]
  simp
theorem rd_bad_ok (k v : Int) : RdOk k v [] true 0 [] [] true := by
  constructor <;> intro h <;> simp [rdN, rdF, rdB, rdT]

end Go.Proofs.Ytnkgbigjpihfeaa.Kd
