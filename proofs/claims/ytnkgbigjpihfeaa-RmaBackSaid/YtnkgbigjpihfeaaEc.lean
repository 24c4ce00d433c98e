/- What reading a command gives: the plain law. -/
import Derived.Test.YtnkgbigjpihfeaaEb
set_option linter.unusedVariables false
set_option linter.unusedSimpArgs false
namespace Go.Proofs.Ytnkgbigjpihfeaa.Kd
open Go.RowKit Go.Proofs.Ytnkgbigjpihfeaa.Lib

/-- This command was read of L. -/
def RD (L : List Int) (k o r w m u g d q : Int) (b y : Bool) (n : Nat) (F : Nat → Int) (L' : List Int) (bad : Bool) : Prop :=
  (bad = false → formB k o r w m u g d q b y n F = true → L = catP (wrP k o r w m u g d q b y n F) ++ L') ∧
  (∀ (k0 o0 r0 w0 m0 u0 g0 d0 q0 : Int) (b0 y0 : Bool) (n0 : Nat) (F0 : Nat → Int) (R : List Int), formB k0 o0 r0 w0 m0 u0 g0 d0 q0 b0 y0 n0 F0 = true → L = catP (wrP k0 o0 r0 w0 m0 u0 g0 d0 q0 b0 y0 n0 F0) ++ R →
    bad = false ∧ L' = R ∧ k = k0 ∧ o = o0 ∧ r = r0 ∧ w = w0 ∧ m = m0 ∧ u = u0 ∧ g = g0 ∧ d = d0 ∧ q = q0 ∧ b = b0 ∧ y = y0 ∧ n = n0 ∧ ∀ j, j < n → F j = F0 j)

theorem form_parts {k o r w m u g d q : Int} {b y : Bool} {n : Nat} {F : Nat → Int} (h : formB k o r w m u g d q b y n F = true) : (k = 1 → 1 ≤ n ∧ n ≤ 60) ∧ needB k o r w m u g d q b y n = true ∧ (wrP k o r w m u g d q b y n F).all goodP = true := by
  simp only [formB, Bool.and_eq_true] at h
  refine ⟨fun hk => ?_, h.1.2, h.2⟩
  have h1 := h.1.1
  by_cases hc : k = 1 ∧ (n < 1 ∨ 60 < n)
  · rw [decide_eq_true hc] at h1
    cases h1
  · omega
theorem form_head {k o r w m u g d q : Int} {b y : Bool} {n : Nat} {F : Nat → Int} (h : formB k o r w m u g d q b y n F = true) : ∃ rest, wrP k o r w m u g d q b y n F = (k, 1) :: rest := by
  have h3 := (form_parts h).2.2
  unfold wrP at h3 ⊢
  split
  · exact ⟨_, rfl⟩
  · rename_i h1
    rw [if_neg h1] at h3
    split
    · exact ⟨_, rfl⟩
    · rename_i h2
      rw [if_neg h2] at h3
      split
      · exact ⟨_, rfl⟩
      · rename_i h4
        rw [if_neg h4] at h3
        split
        · exact ⟨_, rfl⟩
        · rename_i h5
          rw [if_neg h5] at h3
          split
          · exact ⟨_, rfl⟩
          · rename_i h6
            rw [if_neg h6] at h3
            cases h3
theorem kind_same {L L1 R : List Int} {b1 : Bool} {k k0 o0 r0 w0 m0 u0 g0 d0 q0 : Int} {b0 y0 : Bool} {n0 : Nat} {F0 : Nat → Int} (h : J L [(k, 1)] L1 b1) (hf : formB k0 o0 r0 w0 m0 u0 g0 d0 q0 b0 y0 n0 F0 = true) (hL : L = catP (wrP k0 o0 r0 w0 m0 u0 g0 d0 q0 b0 y0 n0 F0) ++ R) : k = k0 := by
  obtain ⟨rest, e⟩ := form_head hf
  have hg := (form_parts hf).2.2
  rw [e] at hg hL
  simp only [List.all_cons, Bool.and_eq_true] at hg
  have := (h.same (it0 := [(k0, 1)]) (R := catP rest ++ R) (by simp [hg.1]) rfl (by rw [hL, catP_cons, List.append_assoc]; simp [catP])).2.1
  injection this with h1 _
  injection h1

theorem rd_2 {L L1 L' : List Int} {b1 bad : Bool} {m : Int} (h1 : J L [(2, 1)] L1 b1) (h : J L [((2 : Int), 1), (m, 2)] L' bad) : RD L 2 0 0 0 m 0 0 0 0 false false 0 (fun _ => 0) L' bad := by
  refine ⟨fun hb hf => ?_, fun k0 o0 r0 w0 m0 u0 g0 d0 q0 b0 y0 n0 F0 R hf hL => ?_⟩
  · rw [(h.1 hb).1]
    simp [wrP, catP]
  · obtain rfl := kind_same h1 hf hL
    obtain ⟨_, hn, hg⟩ := form_parts hf
    have e : wrP 2 o0 r0 w0 m0 u0 g0 d0 q0 b0 y0 n0 F0 = [((2 : Int), 1), (m0, 2)] := by simp [wrP]
    rw [e] at hg hL
    obtain ⟨hb, e1, e3⟩ := h.same hg rfl hL
    simp [needB] at hn
    simp at e1
    refine ⟨hb, e3, ?_⟩
    simp_all

theorem rd_3 {L L1 L' : List Int} {b1 bad : Bool} {m : Int} (h1 : J L [(3, 1)] L1 b1) (h : J L [((3 : Int), 1), (m, 2)] L' bad) : RD L 3 0 0 0 m 0 0 0 0 false false 0 (fun _ => 0) L' bad := by
  refine ⟨fun hb hf => ?_, fun k0 o0 r0 w0 m0 u0 g0 d0 q0 b0 y0 n0 F0 R hf hL => ?_⟩
  · rw [(h.1 hb).1]
    simp [wrP, catP]
  · obtain rfl := kind_same h1 hf hL
    obtain ⟨_, hn, hg⟩ := form_parts hf
    have e : wrP 3 o0 r0 w0 m0 u0 g0 d0 q0 b0 y0 n0 F0 = [((3 : Int), 1), (m0, 2)] := by simp [wrP]
    rw [e] at hg hL
    obtain ⟨hb, e1, e3⟩ := h.same hg rfl hL
    simp [needB] at hn
    simp at e1
    refine ⟨hb, e3, ?_⟩
    simp_all

theorem rd_4 {L L1 L' : List Int} {b1 bad : Bool} {m : Int} (h1 : J L [(4, 1)] L1 b1) (h : J L [((4 : Int), 1), (m, 2)] L' bad) : RD L 4 0 0 0 m 0 0 0 0 false false 0 (fun _ => 0) L' bad := by
  refine ⟨fun hb hf => ?_, fun k0 o0 r0 w0 m0 u0 g0 d0 q0 b0 y0 n0 F0 R hf hL => ?_⟩
  · rw [(h.1 hb).1]
    simp [wrP, catP]
  · obtain rfl := kind_same h1 hf hL
    obtain ⟨_, hn, hg⟩ := form_parts hf
    have e : wrP 4 o0 r0 w0 m0 u0 g0 d0 q0 b0 y0 n0 F0 = [((4 : Int), 1), (m0, 2)] := by simp [wrP]
    rw [e] at hg hL
    obtain ⟨hb, e1, e3⟩ := h.same hg rfl hL
    simp [needB] at hn
    simp at e1
    refine ⟨hb, e3, ?_⟩
    simp_all

theorem rd_5 {L L1 L' : List Int} {b1 bad : Bool} {m : Int} (h1 : J L [(5, 1)] L1 b1) (h : J L [((5 : Int), 1), (m, 2)] L' bad) : RD L 5 0 0 0 m 0 0 0 0 false false 0 (fun _ => 0) L' bad := by
  refine ⟨fun hb hf => ?_, fun k0 o0 r0 w0 m0 u0 g0 d0 q0 b0 y0 n0 F0 R hf hL => ?_⟩
  · rw [(h.1 hb).1]
    simp [wrP, catP]
  · obtain rfl := kind_same h1 hf hL
    obtain ⟨_, hn, hg⟩ := form_parts hf
    have e : wrP 5 o0 r0 w0 m0 u0 g0 d0 q0 b0 y0 n0 F0 = [((5 : Int), 1), (m0, 2)] := by simp [wrP]
    rw [e] at hg hL
    obtain ⟨hb, e1, e3⟩ := h.same hg rfl hL
    simp [needB] at hn
    simp at e1
    refine ⟨hb, e3, ?_⟩
    simp_all

theorem rd_6 {L L1 L' : List Int} {b1 bad : Bool} {m u g : Int} (h1 : J L [(6, 1)] L1 b1) (h : J L [((6 : Int), 1), (m, 2), (u, 1), (g, 1)] L' bad) : RD L 6 0 0 0 m u g 0 0 false false 0 (fun _ => 0) L' bad := by
  refine ⟨fun hb hf => ?_, fun k0 o0 r0 w0 m0 u0 g0 d0 q0 b0 y0 n0 F0 R hf hL => ?_⟩
  · rw [(h.1 hb).1]
    simp [wrP, catP]
  · obtain rfl := kind_same h1 hf hL
    obtain ⟨_, hn, hg⟩ := form_parts hf
    have e : wrP 6 o0 r0 w0 m0 u0 g0 d0 q0 b0 y0 n0 F0 = [((6 : Int), 1), (m0, 2), (u0, 1), (g0, 1)] := by simp [wrP]
    rw [e] at hg hL
    obtain ⟨hb, e1, e3⟩ := h.same hg rfl hL
    simp [needB] at hn
    simp at e1
    refine ⟨hb, e3, ?_⟩
    simp_all

theorem rd_7 {L L1 L' : List Int} {b1 bad : Bool} {d : Int} (h1 : J L [(7, 1)] L1 b1) (h : J L [((7 : Int), 1), (d, 2)] L' bad) : RD L 7 0 0 0 0 0 0 d 0 false false 0 (fun _ => 0) L' bad := by
  refine ⟨fun hb hf => ?_, fun k0 o0 r0 w0 m0 u0 g0 d0 q0 b0 y0 n0 F0 R hf hL => ?_⟩
  · rw [(h.1 hb).1]
    simp [wrP, catP]
  · obtain rfl := kind_same h1 hf hL
    obtain ⟨_, hn, hg⟩ := form_parts hf
    have e : wrP 7 o0 r0 w0 m0 u0 g0 d0 q0 b0 y0 n0 F0 = [((7 : Int), 1), (d0, 2)] := by simp [wrP]
    rw [e] at hg hL
    obtain ⟨hb, e1, e3⟩ := h.same hg rfl hL
    simp [needB] at hn
    simp at e1
    refine ⟨hb, e3, ?_⟩
    simp_all

theorem rd_8 {L L1 L' : List Int} {b1 bad : Bool} {q : Int} {y : Bool} (h1 : J L [(8, 1)] L1 b1) (h : JF L [((8 : Int), 1), (q, 4)] y L' bad) : RD L 8 0 0 0 0 0 0 0 q false y 0 (fun _ => 0) L' bad := by
  refine ⟨fun hb hf => ?_, fun k0 o0 r0 w0 m0 u0 g0 d0 q0 b0 y0 n0 F0 R hf hL => ?_⟩
  · rw [(h.1 hb).1]
    simp [wrP, catP]
  · obtain rfl := kind_same h1 hf hL
    obtain ⟨_, hn, hg⟩ := form_parts hf
    have e : wrP 8 o0 r0 w0 m0 u0 g0 d0 q0 b0 y0 n0 F0 = [((8 : Int), 1), (q0, 4)] ++ [(fl y0, 1)] := by simp [wrP]
    rw [e] at hg hL
    rw [List.all_append, Bool.and_eq_true] at hg
    obtain ⟨hb, e1, e2, e3⟩ := h.2 [((8 : Int), 1), (q0, 4)] y0 R hg.1 rfl hL
    simp [needB] at hn
    simp at e1
    refine ⟨hb, e3, ?_⟩
    simp_all

theorem rd_0 {L L1 : List Int} {b1 : Bool} {k : Int} (h1 : (k == 1) = false) (h2 : (k == 2) = false) (h3 : (k == 3) = false) (h4 : (k == 4) = false) (h5 : (k == 5) = false) (h6 : (k == 6) = false) (h7 : (k == 7) = false) (h8 : (k == 8) = false) (h : J L [(k, 1)] L1 b1) : RD L k 0 0 0 0 0 0 0 0 false false 0 (fun _ => 0) L1 b1 := by
  refine ⟨fun hb hf => ?_, fun k0 o0 r0 w0 m0 u0 g0 d0 q0 b0 y0 n0 F0 R hf hL => ?_⟩
  · rw [fB0 k 0 0 0 0 0 0 0 0 false false none 0 0 (fun _ => 0) h1 h2 h3 h4 h5 h6 h7 h8] at hf
    cases hf
  · obtain rfl := kind_same h hf hL
    rw [fB0 k o0 r0 w0 m0 u0 g0 d0 q0 b0 y0 none n0 0 F0 h1 h2 h3 h4 h5 h6 h7 h8] at hf
    cases hf

theorem rd_1 {L L1 L3 L' : List Int} {b1 b3 bad : Bool} {o nb r w : Int} {us : List Int} {b : Bool} (h1 : J L [(1, 1)] L1 b1) (h3 : J L [(1, 1), (o, 1), (nb, 1)] L3 b3) (hn : us.length = nb.toNat) (hn0 : 0 ≤ nb)
    (h : JF L ([((1 : Int), 1), (o, 1), (nb, 1)] ++ us.map (fun x => (x, 1)) ++ [(r, 1), (w, 2)]) b L' bad) : RD L 1 o r w 0 0 0 0 0 b false us.length (fun j => us.getD j 0) L' bad := by
  have hu : (List.range us.length).map (fun j => (us.getD j 0, 1)) = us.map (fun x => (x, 1)) := by
    apply List.ext_getElem
    · simp
    · intro i h1 h2
      simp at h1
      simp [List.getD, h1]
  refine ⟨fun hb hf => ?_, fun k0 o0 r0 w0 m0 u0 g0 d0 q0 b0 y0 n0 F0 R hf hL => ?_⟩
  · have e : wrP 1 o r w 0 0 0 0 0 b false us.length (fun j => us.getD j 0) = [((1 : Int), 1), (o, 1), (nb, 1)] ++ us.map (fun x => (x, 1)) ++ [(r, 1), (w, 2)] ++ [(fl b, 1)] := by
      have e0 : ((us.length : Nat) : Int) = nb := by omega
      simp only [wrP, if_true, hu, e0]
      simp
    rw [e]
    exact (h.1 hb).1
  · obtain rfl := kind_same h1 hf hL
    obtain ⟨hn1, hnd, hg⟩ := form_parts hf
    have e : wrP 1 o0 r0 w0 m0 u0 g0 d0 q0 b0 y0 n0 F0 = [((1 : Int), 1), (o0, 1), ((n0 : Int), 1)] ++ (List.range n0).map (fun j => (F0 j, 1)) ++ [(r0, 1), (w0, 2)] ++ [(fl b0, 1)] := by simp [wrP]
    rw [e] at hg hL
    have hg3 : ([((1 : Int), 1), (o0, 1), ((n0 : Int), 1)] : List (Int × Nat)).all goodP = true := by
      rw [List.all_append, List.all_append, List.all_append] at hg
      simp only [Bool.and_eq_true] at hg ⊢
      exact hg.1.1.1
    have q := (h3.same (it0 := [((1 : Int), 1), (o0, 1), ((n0 : Int), 1)]) (R := catP ((List.range n0).map (fun j => (F0 j, 1)) ++ [(r0, 1), (w0, 2)] ++ [(fl b0, 1)]) ++ R) hg3 rfl (by
      rw [hL, ← List.append_assoc, ← catP_app]
      simp)).2.1
    simp only [List.cons.injEq, Prod.mk.injEq, and_true, true_and] at q
    obtain ⟨rfl, q2⟩ := q
    have hlen : us.length = n0 := by omega
    rw [List.all_append, Bool.and_eq_true] at hg
    obtain ⟨hb, e1, rfl, e3⟩ := h.2 _ b0 R hg.1 (by simp [hlen, Function.comp_def, List.map_const']) hL
    obtain ⟨e5, e6⟩ := List.append_inj e1 (by simp [hlen])
    obtain ⟨_, e7⟩ := List.append_inj e5 (by simp)
    simp only [List.cons.injEq, Prod.mk.injEq, and_true] at e6
    obtain ⟨rfl, rfl⟩ := e6
    simp [needB] at hnd
    refine ⟨hb, e3, rfl, rfl, rfl, rfl, hnd.1.1.1.1.1.symm, hnd.1.1.1.1.2.symm, hnd.1.1.1.2.symm, hnd.1.1.2.symm, hnd.1.2.symm, rfl, hnd.2.symm, hlen, fun j hj => ?_⟩
    have := congrArg (fun l => l[j]?) e7
    simp [hj, hlen ▸ hj] at this
    simpa [List.getD, hj] using this

end Go.Proofs.Ytnkgbigjpihfeaa.Kd
