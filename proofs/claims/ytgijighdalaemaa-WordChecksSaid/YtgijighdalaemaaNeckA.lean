/- Plain laws: necklaces, the order of words, the search of word.Necklaces finds all necklaces in order. -/
import Derived.Test.YtgijighdalaemaaWordS
namespace Go.Proofs.Ytgijighdalaemaa
open Go.RowKit

/-- The number of a letter. -/
def nth (w : List UInt8) (i : Nat) : Nat := (w.getD i 0).toNat

theorem nth_append_left (w z : List UInt8) (i : Nat) (h : i < w.length) : nth (w ++ z) i = nth w i := by
  simp [nth, List.getD_eq_getElem?_getD, List.getElem?_append_left h]
theorem nth_append_right (w z : List UInt8) (i : Nat) : nth (w ++ z) (w.length + i) = nth z i := by
  simp [nth, List.getD_eq_getElem?_getD, List.getElem?_append_right (Nat.le_add_right _ _)]
theorem nth_snoc (w : List UInt8) (b : UInt8) : nth (w ++ [b]) w.length = b.toNat := by
  have h := nth_append_right w [b] 0
  simp only [nth, Nat.add_zero] at h ⊢
  exact h
theorem nth_cons (w : List UInt8) (b : UInt8) (z : List UInt8) : nth (w ++ b :: z) w.length = b.toNat := by
  have h := nth_append_right w (b :: z) 0
  simp only [nth, Nat.add_zero] at h ⊢
  exact h

def Per (w : List UInt8) (p : Nat) : Prop := ∀ i, i + p < w.length → nth w (i + p) = nth w i
def Lyn (w : List UInt8) (p : Nat) : Prop := ∀ k, 0 < k → k < p → ∃ j, k + j < p ∧ (∀ i, i < j → nth w (k + i) = nth w i) ∧ nth w j < nth w (k + j)

/-- A word that goes on periodically from a Lyndon word with p letters. -/
structure Good (w : List UInt8) (p : Nat) : Prop where
  p1 : 1 ≤ p
  le : p ≤ w.length
  per : Per w p
  lyn : Lyn w p

theorem per_mul {w : List UInt8} {p : Nat} (h : Per w p) (q : Nat) : ∀ i, i + q * p < w.length → nth w (i + q * p) = nth w i := by
  induction q with
  | zero => intro i _; simp
  | succ q ih =>
    intro i hi
    rw [Nat.succ_mul, ← Nat.add_assoc] at hi ⊢
    rw [h (i + q * p) hi, ih i (by omega)]

theorem per_mod {w : List UInt8} {p : Nat} (h : Per w p) (i : Nat) (hi : i < w.length) : nth w i = nth w (i % p) := by
  have e : i % p + i / p * p = i := by rw [Nat.mul_comm]; exact Nat.mod_add_div i p
  have := per_mul h (i / p) (i % p) (by rw [e]; exact hi)
  rw [e] at this
  exact this

theorem per_eq {w : List UInt8} {p : Nat} (h : Per w p) (i j : Nat) (hi : i < w.length) (hj : j < w.length) (e : i % p = j % p) : nth w i = nth w j := by
  rw [per_mod h i hi, per_mod h j hj, e]

theorem good_one (b : UInt8) : Good [b] 1 :=
  ⟨Nat.le_refl _, Nat.le_refl _, fun i hi => by simp at hi, fun k h1 h2 => by omega⟩

theorem good_same {w : List UInt8} {p : Nat} (h : Good w p) (b : UInt8) (hb : b.toNat = nth w (w.length - p)) : Good (w ++ [b]) p := by
  have hp := h.p1; have hl := h.le
  refine ⟨h.p1, by simp; omega, fun i hi => ?_, fun k h1 h2 => ?_⟩
  · simp only [List.length_append, List.length_singleton] at hi
    by_cases hlt : i + p < w.length
    · rw [nth_append_left _ _ _ hlt, nth_append_left _ _ _ (by omega)]; exact h.per i hlt
    · have e : i + p = w.length := by omega
      rw [e, nth_snoc, hb, nth_append_left _ _ _ (by omega)]
      congr 1; omega
  · obtain ⟨j, hj, heq, hlt⟩ := h.lyn k h1 h2
    refine ⟨j, hj, fun i hi => ?_, ?_⟩
    · rw [nth_append_left _ _ _ (by omega), nth_append_left _ _ _ (by omega)]; exact heq i hi
    · rw [nth_append_left _ _ _ (by omega), nth_append_left _ _ _ (by omega)]; exact hlt

theorem good_more {w : List UInt8} {p : Nat} (h : Good w p) (b : UInt8) (hb : nth w (w.length - p) < b.toNat) : Good (w ++ [b]) (w.length + 1) := by
  have hp := h.p1; have hl := h.le
  refine ⟨by omega, by simp, fun i hi => by simp at hi; omega, fun k h1 h2 => ?_⟩
  -- the last letter against the letter that the period would give
  have hlast : ∀ m, m < w.length → m % p = w.length % p → nth w m < b.toNat := fun m hm e => by
    rw [per_eq h.per m (w.length - p) hm (by omega) (by rw [e, ← Nat.mod_eq_sub_mod hl])]; exact hb
  have hsub : (w.length - k) % p = w.length % p ∨ k % p ≠ 0 := by
    by_cases hk : k % p = 0
    · left
      obtain ⟨q, rfl⟩ := Nat.dvd_of_mod_eq_zero hk
      have : w.length - p * q + p * q = w.length := by omega
      rw [← this, Nat.add_mul_mod_self_left]; simp
    · exact .inr hk
  by_cases hk : k % p = 0
  · -- the suffix begins at a multiple of the period
    refine ⟨w.length - k, by omega, fun i hi => ?_, ?_⟩
    · rw [nth_append_left _ _ _ (by omega), nth_append_left _ _ _ (by omega)]
      exact per_eq h.per _ _ (by omega) (by omega) (by rw [Nat.add_mod, hk]; simp)
    · rw [show k + (w.length - k) = w.length by omega, nth_snoc, nth_append_left _ _ _ (by omega)]
      exact hlast _ (by omega) (hsub.resolve_right (fun h => h hk))
  · have hr : k % p < p := Nat.mod_lt _ (by omega)
    obtain ⟨j, hj, heq, hlt⟩ := h.lyn (k % p) (by omega) hr
    have hsame : ∀ i, k + i < w.length → k % p + i < w.length → nth w (k + i) = nth w (k % p + i) := fun i h1 h2 =>
      per_eq h.per _ _ h1 h2 (by simp [Nat.add_mod])
    by_cases hkj : k + j < w.length
    · refine ⟨j, by omega, fun i hi => ?_, ?_⟩
      · rw [nth_append_left _ _ _ (by omega), nth_append_left _ _ _ (by omega), hsame i (by omega) (by omega)]; exact heq i hi
      · rw [nth_append_left _ _ _ (by omega), nth_append_left _ _ _ hkj, hsame j hkj (by omega)]; exact hlt
    · refine ⟨w.length - k, by omega, fun i hi => ?_, ?_⟩
      · rw [nth_append_left _ _ _ (by omega), nth_append_left _ _ _ (by omega), hsame i (by omega) (by omega)]; exact heq i (by omega)
      · rw [show k + (w.length - k) = w.length by omega, nth_snoc, nth_append_left _ _ _ (by omega)]
        have hkm : k % p ≤ k := Nat.mod_le _ _
        have hm : nth w (k % p + (w.length - k)) < b.toNat := by
          refine hlast _ (by omega) ?_
          have : k % p + (w.length - k) + p * (k / p) = w.length := by have := Nat.mod_add_div k p; omega
          rw [← Nat.add_mul_mod_self_left _ p (k / p), this]
        rcases Nat.lt_or_ge (w.length - k) j with hj' | hj'
        · rw [← heq _ hj']; exact hm
        · have : w.length - k = j := by omega
          rw [this] at hm ⊢
          omega

/-- A rotation. -/
def rotl (w : List UInt8) (k : Nat) : List UInt8 := w.drop k ++ w.take k

theorem nth_rotl (w : List UInt8) (k i : Nat) (hk : k ≤ w.length) (hi : i < w.length) : nth (rotl w k) i = nth w ((k + i) % w.length) := by
  unfold rotl
  by_cases h : k + i < w.length
  · rw [nth_append_left _ _ _ (by simp; omega), Nat.mod_eq_of_lt h]
    simp [nth, List.getD_eq_getElem?_getD]
  · have hd : (w.drop k).length = w.length - k := by simp
    have e : i = (w.drop k).length + (i - (w.length - k)) := by omega
    rw [e, nth_append_right]
    have e2 : (k + ((w.drop k).length + (i - (w.length - k)))) % w.length = i - (w.length - k) := by
      rw [hd, show k + (w.length - k + (i - (w.length - k))) = (i - (w.length - k)) + w.length by omega, Nat.add_mod_right]
      exact Nat.mod_eq_of_lt (by omega)
    rw [e2]
    simp only [nth, List.getD_eq_getElem?_getD]
    rw [List.getElem?_take, if_pos (by omega)]

/-- Less, of words of one length. -/
def Less (a b : List UInt8) : Prop := ∃ j, j < a.length ∧ (∀ i, i < j → nth a i = nth b i) ∧ nth a j < nth b j

def isNeck (w : List UInt8) : Prop := ∀ k, k < w.length → ¬ Less (rotl w k) w

theorem rotl_length (w : List UInt8) (k : Nat) : (rotl w k).length = w.length := by simp [rotl]; omega

theorem neck_yes {w : List UInt8} {p : Nat} (h : Good w p) (hd : w.length % p = 0) : isNeck w := by
  intro k hk hless
  obtain ⟨j, hj, heq, hlt⟩ := hless
  rw [rotl_length] at hj
  have hp := h.p1; have hl := h.le
  have hrot : ∀ i, i < w.length → nth (rotl w k) i = nth w ((k + i) % p) := fun i hi => by
    rw [nth_rotl w k i (by omega) hi, per_mod h.per _ (Nat.mod_lt _ (by omega)), Nat.mod_mod_of_dvd _ (Nat.dvd_of_mod_eq_zero hd)]
  have hmod : (k + j) % p < p := Nat.mod_lt _ (by omega)
  by_cases hkp : k % p = 0
  · rw [hrot j hj, Nat.add_mod, hkp, Nat.zero_add, Nat.mod_mod, ← per_mod h.per j hj] at hlt
    omega
  · have hr : k % p < p := Nat.mod_lt _ (by omega)
    obtain ⟨m, hm, meq, mlt⟩ := h.lyn (k % p) (by omega) hr
    have hi : ∀ i, i ≤ m → nth (rotl w k) i = nth w (k % p + i) := fun i hi => by
      rw [hrot i (by omega), Nat.add_mod, Nat.mod_eq_of_lt (show i < p by omega), Nat.mod_eq_of_lt (show k % p + i < p by omega)]
    rcases Nat.lt_trichotomy j m with h1 | h1 | h1
    · rw [hi j (by omega), meq j h1] at hlt; omega
    · subst h1; rw [hi j (Nat.le_refl _)] at hlt; omega
    · have := heq m h1
      rw [hi m (Nat.le_refl _)] at this
      omega

theorem neck_no {w : List UInt8} {p : Nat} (h : Good w p) (hd : w.length % p ≠ 0) : ¬ isNeck w := by
  intro hn
  have hp := h.p1; have hl := h.le
  have hr : w.length % p < p := Nat.mod_lt _ (by omega)
  have hk : w.length - w.length % p < w.length := by omega
  refine hn (w.length - w.length % p) hk ?_
  obtain ⟨j, hj, heq, hlt⟩ := h.lyn (w.length % p) (by omega) hr
  have hkp : (w.length - w.length % p) % p = 0 := by
    have := Nat.mod_add_div w.length p
    rw [show w.length - w.length % p = p * (w.length / p) by omega, Nat.mul_mod_right]
  have hle : w.length % p + j < w.length := by omega
  refine ⟨w.length % p + j, by rw [rotl_length]; omega, fun i hi => ?_, ?_⟩
  · rw [nth_rotl _ _ _ (by omega) (by omega)]
    rcases Nat.lt_or_ge i (w.length % p) with h1 | h1
    · rw [Nat.mod_eq_of_lt (by omega)]
      exact per_eq h.per _ _ (by omega) (by omega) (by rw [Nat.add_mod, hkp]; simp)
    · have e : (w.length - w.length % p + i) % w.length = i - w.length % p := by
        rw [show w.length - w.length % p + i = (i - w.length % p) + w.length by omega, Nat.add_mod_right]
        exact Nat.mod_eq_of_lt (by omega)
      rw [e, ← heq (i - w.length % p) (by omega)]
      congr 1; omega
  · rw [nth_rotl _ _ _ (by omega) hle]
    have e : (w.length - w.length % p + (w.length % p + j)) % w.length = j := by
      rw [show w.length - w.length % p + (w.length % p + j) = j + w.length by omega, Nat.add_mod_right]
      exact Nat.mod_eq_of_lt (by omega)
    rw [e]; exact hlt

theorem neck_dead {w : List UInt8} {p : Nat} (h : Good w p) (b : UInt8) (hb : b.toNat < nth w (w.length - p)) (z : List UInt8) : ¬ isNeck (w ++ b :: z) := by
  intro hn
  have hp := h.p1; have hl := h.le
  have hr : w.length % p < p := Nat.mod_lt _ (by omega)
  have hlen : (w ++ b :: z).length = w.length + 1 + z.length := by simp; omega
  have hkp : (w.length - w.length % p) % p = 0 := by
    have := Nat.mod_add_div w.length p
    rw [show w.length - w.length % p = p * (w.length / p) by omega, Nat.mul_mod_right]
  have hpos : w.length % p ≤ w.length - p ∨ w.length % p < w.length := by omega
  refine hn (w.length - w.length % p) (by omega) ?_
  refine ⟨w.length % p, by rw [rotl_length]; omega, fun i hi => ?_, ?_⟩
  · rw [nth_rotl _ _ _ (by omega) (by omega), Nat.mod_eq_of_lt (by omega), nth_append_left _ _ _ (by omega), nth_append_left _ _ _ (by omega)]
    exact per_eq h.per _ _ (by omega) (by omega) (by rw [Nat.add_mod, hkp]; simp)
  · rw [nth_rotl _ _ _ (by omega) (by omega), Nat.mod_eq_of_lt (by omega), show w.length - w.length % p + w.length % p = w.length by omega, nth_cons, nth_append_left _ _ _ (by omega)]
    rw [per_eq h.per (w.length % p) (w.length - p) (by omega) (by omega) (by rw [Nat.mod_mod, ← Nat.mod_eq_sub_mod hl])]
    exact hb

theorem nth_zero (x : UInt8) (a : List UInt8) : nth (x :: a) 0 = x.toNat := by simp [nth]
theorem nth_succ (x : UInt8) (a : List UInt8) (i : Nat) : nth (x :: a) (i + 1) = nth a i := by simp [nth]

theorem less_iff : ∀ (a b : List UInt8), a.length = b.length → (Op.bytesLess a b = true ↔ Less a b)
  | [], [], _ => by simp [Op.bytesLess, Less]
  | x :: a, y :: b, h => by
    have ih := less_iff a b (by simpa using h)
    simp only [Op.bytesLess, Bool.or_eq_true, decide_eq_true_eq, Bool.and_eq_true, beq_iff_eq, ih]
    constructor
    · rintro (h1 | ⟨rfl, j, hj, heq, hlt⟩)
      · exact ⟨0, by simp, fun i hi => by omega, by rw [nth_zero, nth_zero]; exact UInt8.lt_iff_toNat_lt.1 h1⟩
      · refine ⟨j + 1, by simp; omega, fun i hi => ?_, by rw [nth_succ, nth_succ]; exact hlt⟩
        cases i with
        | zero => rw [nth_zero, nth_zero]
        | succ i => rw [nth_succ, nth_succ]; exact heq i (by omega)
    · rintro ⟨j, hj, heq, hlt⟩
      cases j with
      | zero => rw [nth_zero, nth_zero] at hlt; exact .inl (UInt8.lt_iff_toNat_lt.2 hlt)
      | succ j =>
        refine .inr ⟨?_, j, by simp at hj; omega, fun i hi => ?_, by rw [nth_succ, nth_succ] at hlt; exact hlt⟩
        · have := heq 0 (by omega)
          rw [nth_zero, nth_zero] at this
          exact UInt8.toNat_inj.1 this
        · have := heq (i + 1) (by omega)
          rw [nth_succ, nth_succ] at this
          exact this
  | [], y :: b, h => by simp at h
  | x :: a, [], h => by simp at h

theorem less_irrefl (a : List UInt8) : ¬ Less a a := fun ⟨_, _, _, h⟩ => Nat.lt_irrefl _ h

theorem less_trans {a b c : List UInt8} (hab : a.length = b.length) (h1 : Less a b) (h2 : Less b c) : Less a c := by
  obtain ⟨i, hi, ei, li⟩ := h1
  obtain ⟨j, hj, ej, lj⟩ := h2
  rcases Nat.lt_trichotomy i j with h | h | h
  · exact ⟨i, hi, fun k hk => (ei k hk).trans (ej k (by omega)), by rw [← ej i h]; exact li⟩
  · subst h; exact ⟨i, hi, fun k hk => (ei k hk).trans (ej k hk), Nat.lt_trans li lj⟩
  · exact ⟨j, by omega, fun k hk => (ei k (by omega)).trans (ej k hk), by rw [ei j h]; exact lj⟩

theorem eq_of_nth {a b : List UInt8} (h : a.length = b.length) (he : ∀ i, i < a.length → nth a i = nth b i) : a = b := by
  apply List.ext_getElem h
  intro i h1 h2
  have := he i h1
  simp only [nth, List.getD_eq_getElem?_getD, List.getElem?_eq_getElem h1, List.getElem?_eq_getElem h2] at this
  exact UInt8.toNat_inj.1 this

theorem less_total {a b : List UInt8} (h : a.length = b.length) (hne : a ≠ b) : Less a b ∨ Less b a := by
  have hex : ∃ j, j < a.length ∧ nth a j ≠ nth b j := by
    apply Classical.byContradiction
    intro hc
    exact hne (eq_of_nth h fun i hi => Classical.byContradiction fun hn => hc ⟨i, hi, hn⟩)
  -- the first such place
  have hmin : ∀ n, (∃ j, j < n ∧ j < a.length ∧ nth a j ≠ nth b j) → ∃ j, j < a.length ∧ nth a j ≠ nth b j ∧ ∀ i, i < j → nth a i = nth b i := by
    intro n
    induction n with
    | zero => rintro ⟨j, hj, _⟩; omega
    | succ n ih =>
      rintro ⟨j, hj, hja, hjn⟩
      by_cases he : ∃ j, j < n ∧ j < a.length ∧ nth a j ≠ nth b j
      · exact ih he
      · have : j = n := Classical.byContradiction fun hne => he ⟨j, by omega, hja, hjn⟩
        subst this
        exact ⟨j, hja, hjn, fun i hi => Classical.byContradiction fun hn => he ⟨i, hi, by omega, hn⟩⟩
  obtain ⟨j, hj, hjn⟩ := hex
  obtain ⟨m, hm, hmn, hme⟩ := hmin (j + 1) ⟨j, by omega, hj, hjn⟩
  rcases Nat.lt_or_gt_of_ne hmn with h1 | h1
  · exact .inl ⟨m, hm, hme, h1⟩
  · exact .inr ⟨m, by omega, fun i hi => (hme i hi).symm, h1⟩

open Classical in
/-- All necklaces that begin with a word and go on with some letters, in order. -/
noncomputable def brute : Nat → List Int → List UInt8 → List (List UInt8)
  | 0, _, w => if isNeck w then [w] else []
  | f + 1, rest, w => (List.range rest.length).flatMap fun c => if rest.getD c 0 = 0 then [] else brute f (rest.set c (rest.getD c 0 - 1)) (w ++ [(97 + c).toUInt8])

theorem brute_mem : ∀ (f : Nat) (rest : List Int) (w : List UInt8), ∀ x ∈ brute f rest w, (∃ z, x = w ++ z) ∧ isNeck x
  | 0, rest, w, x, hx => by
    unfold brute at hx
    split at hx
    · rename_i h
      have : x = w := by simpa using hx
      subst this
      exact ⟨⟨[], by simp⟩, h⟩
    · simp at hx
  | f + 1, rest, w, x, hx => by
    unfold brute at hx
    obtain ⟨c, _, hc⟩ := List.mem_flatMap.1 hx
    split at hc
    · simp at hc
    · obtain ⟨⟨z, rfl⟩, hn⟩ := brute_mem f _ _ x hc
      exact ⟨⟨(97 + c).toUInt8 :: z, by simp⟩, hn⟩

theorem brute_dead {w : List UInt8} {p : Nat} (h : Good w p) (c : Nat) (hc : c ≤ 25) (hlt : c < firstOf w p) (f : Nat) (rest : List Int) : brute f rest (w ++ [(97 + c).toUInt8]) = [] := by
  apply List.eq_nil_iff_forall_not_mem.2
  intro x hx
  obtain ⟨⟨z, rfl⟩, hn⟩ := brute_mem f rest _ x hx
  rw [List.append_assoc] at hn
  refine neck_dead h (97 + c).toUInt8 ?_ z hn
  rw [u8_toNat _ (by omega)]
  unfold firstOf at hlt
  rw [if_pos h.le] at hlt
  unfold nth
  omega

theorem foldl_col {l : List Nat} (step : Col → Nat → Col) (g : Nat → List (List UInt8)) (hf : ∀ o c, o.2 = true → step o c = o)
    (hs : ∀ (o : Col) (c : Nat), c ∈ l → (step o c).2 = false → (step o c).1 = o.1 ++ g c) (o : Col) (h : (l.foldl step o).2 = false) : (l.foldl step o).1 = o.1 ++ l.flatMap g := by
  induction l generalizing o with
  | nil => simp
  | cons c l ih =>
    simp only [List.foldl_cons] at h ⊢
    have h2 : (step o c).2 = false := by
      cases hq : (step o c).2 with
      | false => rfl
      | true =>
        have : ∀ (l : List Nat) (o : Col), o.2 = true → l.foldl step o = o := by
          intro l
          induction l with
          | nil => intro o _; rfl
          | cons c l ih => intro o ho; simp only [List.foldl_cons]; rw [hf o c ho]; exact ih o ho
        rw [this l _ hq, hq] at h
        cases h
    rw [ih (fun o c hc => hs o c (List.mem_cons_of_mem _ hc)) (step o c) h, hs o c List.mem_cons_self h2]
    simp

/-- The search finds all necklaces, in order, if it was not stopped. -/
theorem ext_brute (n : Nat) (hn : 1 ≤ n) : ∀ (f : Nat) (rest : List Int) (w : List UInt8) (p : Nat) (o : Col), rest.length ≤ 26 → w.length + f = n → (Good w p ∨ (w = [] ∧ p = 1)) → (∀ x ∈ w, 97 ≤ x.toNat) →
    (ext n f rest w p o).2 = false → (ext n f rest w p o).1 = o.1 ++ brute f rest w
  | 0, rest, w, p, o, hr, hl, hg, hlet, h => by
    have hw : w.length = n := by omega
    have hg : Good w p := hg.resolve_right (fun h => by rw [h.1] at hw; simp at hw; omega)
    simp only [ext] at h ⊢
    split at h
    · rename_i h1; rw [h1] at h; cases h
    · rename_i h1
      rw [if_neg h1]
      simp only [leaf] at h ⊢
      split at h
      · rename_i h2
        rw [if_pos h2]
        split at h
        · cases h
        · rename_i h3
          rw [if_neg h3]
          simp only [brute]
          rw [if_pos (neck_yes hg (by rw [hw]; exact h2))]
      · rename_i h2
        rw [if_neg h2]
        simp only [brute]
        rw [if_neg (neck_no hg (by rw [hw]; exact h2))]; simp
  | f + 1, rest, w, p, o, hr, hl, hg, hlet, h => by
    simp only [ext] at h ⊢
    split at h
    · rename_i h1; rw [h1] at h; cases h
    · rename_i h1
      rw [if_neg h1]
      simp only [brute]
      refine foldl_col _ _ (fun o c ho => ?_) (fun o c hc hq => ?_) o h
      · split
        · rfl
        · split
          · rfl
          · exact ext_full _ _ _ _ _ _ ho
      · have hc26 : c < rest.length := List.mem_range.1 hc
        split at hq
        · rename_i h2
          rw [if_pos h2]
          rcases hg with hg | ⟨rfl, rfl⟩
          · rw [brute_dead hg c (by omega) h2]; simp
          · simp [firstOf] at h2
        · rename_i h2
          rw [if_neg h2]
          split at hq
          · rename_i h3; rw [if_pos h3, if_pos h3]; simp
          · rename_i h3
            rw [if_neg h3, if_neg h3]
            refine ext_brute n hn f _ _ _ o (by simpa using hr) (by simp; omega) (.inl ?_) ?_ hq
            · rcases hg with hg | ⟨rfl, rfl⟩
              · have hle := hg.le
                have hp := hg.p1
                have hx : 97 ≤ (w.getD (w.length - p) 0).toNat := hlet _ (by rw [List.getD_eq_getElem?_getD, List.getElem?_eq_getElem (by omega)]; exact List.getElem_mem _)
                have hfo : firstOf w p = (w.getD (w.length - p) 0).toNat - 97 := if_pos hle
                by_cases h4 : c = firstOf w p
                · rw [if_neg (by rintro (h | h) <;> omega)]
                  refine good_same hg _ ?_
                  rw [u8_toNat _ (by omega)]
                  unfold nth; omega
                · rw [if_pos (.inr h4)]
                  refine good_more hg _ ?_
                  rw [u8_toNat _ (by omega)]
                  unfold nth; omega
              · rw [if_pos (.inl (by simp))]
                exact good_one _
            · intro x hx
              rcases List.mem_append.1 hx with hx | hx
              · exact hlet x hx
              · have : x = (97 + c).toUInt8 := by simpa using hx
                rw [this, u8_toNat _ (by omega)]; omega

/-! Rotations of strings. -/
theorem lb_rot (s : ByteArray) (r : Nat) (_h : r ≤ s.size) : lb (rot s r) = rotl (lb s) r := by
  unfold lb rot rotl
  rw [ByteArray.data_append, Array.toList_append, ByteArray.data_extract, ByteArray.data_extract, Array.toList_extract, Array.toList_extract]
  have hs : s.data.toList.length = s.size := lb_length s
  show (s.data.toList.drop r).take (s.size - r) ++ (s.data.toList.drop 0).take (r - 0) = _
  rw [List.take_of_length_le (by rw [List.length_drop, hs]; exact Nat.le_refl _), List.drop_zero, Nat.sub_zero]

theorem less_rot (s : ByteArray) (i j : Nat) (hi : i ≤ s.size) (hj : j ≤ s.size) : Op.bytesLess (rot s i).toList (rot s j).toList = true ↔ Less (rotl (lb s) i) (rotl (lb s) j) := by
  rw [toList_lb, toList_lb, lb_rot s i hi, lb_rot s j hj]
  exact less_iff _ _ (by rw [rotl_length, rotl_length])

theorem leastAt_min (s : ByteArray) (k : Nat) (hk : k ≤ s.size) : ∀ j, j < k → ¬ Less (rotl (lb s) j) (rotl (lb s) (leastAt s k)) := by
  induction k with
  | zero => intro j hj; omega
  | succ k ih =>
    intro j hj
    have hle := leastAt_le s k
    have hlen : ∀ a b, (rotl (lb s) a).length = (rotl (lb s) b).length := fun a b => by rw [rotl_length, rotl_length]
    simp only [leastAt]
    split
    · rename_i h
      have h' := (less_rot s k (leastAt s k) (by omega) (by omega)).1 h
      rcases Nat.lt_or_ge j k with h1 | h1
      · exact fun h2 => ih (by omega) j h1 (less_trans (hlen _ _) h2 h')
      · rw [show j = k by omega]; exact less_irrefl _
    · rename_i h
      rcases Nat.lt_or_ge j k with h1 | h1
      · exact ih (by omega) j h1
      · rw [show j = k by omega]
        exact fun h2 => h ((less_rot s k (leastAt s k) (by omega) (by omega)).2 h2)

/-- The least rotation, as a list. -/
def leastL (s : ByteArray) : List UInt8 := rotl (lb s) (leastOf s)

theorem leastL_min (s : ByteArray) (j : Nat) (hj : j < s.size) : ¬ Less (rotl (lb s) j) (leastL s) := leastAt_min s s.size (Nat.le_refl _) j hj

theorem rotl_zero (w : List UInt8) : rotl w 0 = w := by simp [rotl]

/-- The least rotation is the word itself just if it is a necklace. -/
theorem least_neck (s : ByteArray) (h0 : 0 < s.size) : leastL s = lb s ↔ isNeck (lb s) := by
  constructor
  · intro h k hk
    have := leastL_min s k (by rw [← lb_length]; exact hk)
    rw [h] at this
    exact this
  · intro h
    have : ∀ k, k ≤ s.size → leastAt s k = 0 := by
      intro k
      induction k with
      | zero => intro _; rfl
      | succ k ih =>
        intro hk
        simp only [leastAt, ih (by omega)]
        rw [if_neg]
        intro hl
        have := (less_rot s k 0 (by omega) (by omega)).1 hl
        rw [rotl_zero] at this
        exact h k (by rw [lb_length]; omega) this
    unfold leastL leastOf
    rw [this s.size (Nat.le_refl _), rotl_zero]

end Go.Proofs.Ytgijighdalaemaa
