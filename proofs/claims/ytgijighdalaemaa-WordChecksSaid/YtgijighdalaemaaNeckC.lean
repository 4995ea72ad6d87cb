/- Plain laws: how many words the search finds, and when it is stopped. -/
import Derived.Test.YtgijighdalaemaaWordX
namespace Go.Proofs.Ytgijighdalaemaa
open Go.RowKit

/-- How many words have some letters. -/
def leaves : Nat → List Int → Nat
  | 0, _ => 1
  | f + 1, rest => ((List.range rest.length).map fun c => if rest.getD c 0 = 0 then 0 else leaves f (rest.set c (rest.getD c 0 - 1))).sum

def fac : Nat → Nat
  | 0 => 1
  | n + 1 => (n + 1) * fac n
def facs : List Int → Nat
  | [] => 1
  | x :: l => fac x.toNat * facs l

theorem facs_set : ∀ (l : List Int) (c : Nat), c < l.length → 0 < l.getD c 0 → facs l = (l.getD c 0).toNat * facs (l.set c (l.getD c 0 - 1))
  | [], c, h, _ => by simp at h
  | y :: l, 0, _, h => by
    have h' : 0 < y := h
    obtain ⟨n, rfl⟩ := Int.eq_ofNat_of_zero_le (show 0 ≤ y by omega)
    obtain ⟨m, rfl⟩ : ∃ m, n = m + 1 := ⟨n - 1, by omega⟩
    have e : ((m + 1 : Nat) : Int) - 1 = (m : Nat) := by omega
    simp only [List.getD_cons_zero, List.set_cons_zero, facs, e, Int.toNat_natCast, fac, Nat.mul_assoc]
  | y :: l, c + 1, h, h0 => by
    have ih := facs_set l c (by simpa using h) h0
    simp only [List.getD_cons_succ, List.set_cons_succ, facs, ih, Nat.mul_left_comm]

theorem sum_range_toNat : ∀ (l : List Int), (∀ x ∈ l, 0 ≤ x) → ((List.range l.length).map fun c => (l.getD c 0).toNat).sum = l.sum.toNat
  | [], _ => rfl
  | y :: l, h => by
    have h1 := h y List.mem_cons_self
    have h2 := sum_nonneg l fun x hx => h x (List.mem_cons_of_mem _ hx)
    have ih := sum_range_toNat l fun x hx => h x (List.mem_cons_of_mem _ hx)
    rw [List.length_cons, List.range_succ_eq_map, List.map_cons, List.sum_cons, List.map_map, List.sum_cons]
    have e : ((fun c => ((y :: l).getD c 0).toNat) ∘ Nat.succ) = fun c => (l.getD c 0).toNat := by funext c; simp
    rw [e, ih, List.getD_cons_zero]
    omega

theorem sum_map_mul (l : List Nat) (g : Nat → Nat) (k : Nat) : (l.map g).sum * k = (l.map fun c => g c * k).sum := by
  induction l with
  | nil => simp
  | cons c l ih => simp only [List.map_cons, List.sum_cons, Nat.add_mul, ih]

theorem leaves_fac : ∀ (f : Nat) (rest : List Int), (∀ x ∈ rest, 0 ≤ x) → rest.sum = f → leaves f rest * facs rest = fac f
  | 0, rest, h, hs => by
    have : facs rest = 1 := by
      clear leaves_fac
      induction rest with
      | nil => rfl
      | cons y l ih =>
        have h1 := h y List.mem_cons_self
        have h2 := sum_nonneg l fun x hx => h x (List.mem_cons_of_mem _ hx)
        rw [List.sum_cons] at hs
        obtain rfl : y = 0 := by omega
        rw [facs, ih (fun x hx => h x (List.mem_cons_of_mem _ hx)) (by omega)]; rfl
    rw [this]; rfl
  | f + 1, rest, h, hs => by
    simp only [leaves, fac]
    rw [sum_map_mul]
    have e : ∀ c ∈ List.range rest.length, (if rest.getD c 0 = 0 then 0 else leaves f (rest.set c (rest.getD c 0 - 1))) * facs rest = (rest.getD c 0).toNat * fac f := by
      intro c hc
      have hc2 := List.mem_range.1 hc
      have h0 := getD_nonneg h c
      split
      · rename_i hz; rw [hz]; simp
      · rename_i hz
        rw [facs_set rest c hc2 (by omega), Nat.mul_left_comm, leaves_fac f (rest.set c (rest.getD c 0 - 1)) ?_ ?_]
        · intro y hy
          rcases List.mem_or_eq_of_mem_set hy with h1 | h1
          · exact h y h1
          · omega
        · rw [sum_set _ _ _ hc2, hs]; push_cast; omega
    rw [List.map_congr_left e, ← sum_map_mul, sum_range_toNat rest h, hs]
    congr 1

theorem foldl_free {step : Col → Nat → Col} {g : Nat → Nat} : ∀ (l : List Nat) (o : Col),
    (∀ c ∈ l, ∀ o : Col, o.2 = false → o.1.length + g c ≤ 5000 → (step o c).2 = false ∧ (step o c).1.length ≤ o.1.length + g c) →
    o.2 = false → o.1.length + (l.map g).sum ≤ 5000 → (l.foldl step o).2 = false ∧ (l.foldl step o).1.length ≤ o.1.length + (l.map g).sum
  | [], o, _, h, _ => ⟨h, by simp⟩
  | c :: l, o, hs, h, hl => by
    simp only [List.map_cons, List.sum_cons, List.foldl_cons] at hl ⊢
    obtain ⟨h1, h2⟩ := hs c List.mem_cons_self o h (by omega)
    obtain ⟨h3, h4⟩ := foldl_free l (step o c) (fun c hc => hs c (List.mem_cons_of_mem _ hc)) h1 (by omega)
    exact ⟨h3, by omega⟩

/-- A search that can find few words is not stopped. -/
theorem ext_free (n : Nat) : ∀ (f : Nat) (rest : List Int) (w : List UInt8) (p : Nat) (o : Col), o.2 = false → o.1.length + leaves f rest ≤ 5000 →
    (ext n f rest w p o).2 = false ∧ (ext n f rest w p o).1.length ≤ o.1.length + leaves f rest
  | 0, rest, w, p, o, h, hl => by
    simp only [leaves] at hl
    simp only [ext, h, Bool.false_eq_true, if_false, leaf, leaves]
    split
    · rw [if_neg (by omega)]
      exact ⟨rfl, by simp⟩
    · exact ⟨h, by omega⟩
  | f + 1, rest, w, p, o, h, hl => by
    simp only [ext, h, Bool.false_eq_true, if_false]
    simp only [leaves] at hl ⊢
    refine foldl_free _ o (fun c _ o h hl => ?_) h hl
    split
    · exact ⟨h, by omega⟩
    · split
      · exact ⟨h, by omega⟩
      · rename_i h2
        rw [if_neg h2] at hl
        exact ext_free n f _ _ _ o h hl

/-! Many necklaces: those that begin with all the letters a. -/

theorem getD_snoc_zero (w : List UInt8) (b : UInt8) (h : 1 ≤ w.length) : (w ++ [b]).getD 0 0 = w.getD 0 0 := by
  simp only [List.getD_eq_getElem?_getD]
  rw [List.getElem?_append_left (by omega)]

theorem ext_lyndon (n : Nat) : ∀ (f x y : Nat) (w : List UInt8) (p : Nat) (o : Col), x + y = f → w.length + f = n → 1 ≤ w.length → w.getD 0 0 = 97 → firstOf w p = 0 → (f = 0 → p = w.length) →
    (ext n f [0, x, y] w p o).2 = true ∨ (o.2 = false ∧ (ext n f [0, (x : Int), (y : Int)] w p o).2 = false ∧ (ext n f [0, (x : Int), (y : Int)] w p o).1.length = o.1.length + leaves f [0, (x : Int), (y : Int)])
  | 0, x, y, w, p, o, hf, hn, hw, h0, hfo, hp => by
    cases ho : o.2 with
    | true => left; rw [ext_full _ _ _ _ _ _ ho]; exact ho
    | false =>
      simp only [ext, ho, Bool.false_eq_true, if_false, leaf, leaves]
      rw [hp rfl, show n % w.length = 0 by rw [← hn]; simp]
      simp only [if_true]
      split
      · exact .inl rfl
      · exact .inr ⟨trivial, rfl, by simp⟩
  | f + 1, x, y, w, p, o, hf, hn, hw, h0, hfo, hp => by
    cases ho : o.2 with
    | true => left; rw [ext_full _ _ _ _ _ _ ho]; exact ho
    | false =>
      have key : ∀ (c : Nat) (x' y' : Nat) (o : Col), 1 ≤ c → c ≤ 2 → x' + y' = f →
          (ext n f [0, x', y'] (w ++ [(97 + c).toUInt8]) (if w.length < p ∨ c ≠ firstOf w p then w.length + 1 else p) o).2 = true ∨
          (o.2 = false ∧ (ext n f [0, (x' : Int), (y' : Int)] (w ++ [(97 + c).toUInt8]) (if w.length < p ∨ c ≠ firstOf w p then w.length + 1 else p) o).2 = false ∧
            (ext n f [0, (x' : Int), (y' : Int)] (w ++ [(97 + c).toUInt8]) (if w.length < p ∨ c ≠ firstOf w p then w.length + 1 else p) o).1.length = o.1.length + leaves f [0, (x' : Int), (y' : Int)]) := by
        intro c x' y' o h1 h2 h3
        rw [if_pos (.inr (by omega))]
        refine ext_lyndon n f x' y' _ _ o h3 (by simp; omega) (by simp) (by rw [getD_snoc_zero _ _ hw]; exact h0) ?_ (fun _ => by simp)
        unfold firstOf
        rw [if_pos (by simp)]
        rw [show (w ++ [(97 + c).toUInt8]).length - (w.length + 1) = 0 by simp, getD_snoc_zero _ _ hw, h0]
        rfl
      have hx1 : ((x : Int) = 0) = (x = 0) := by simp
      have hy1 : ((y : Int) = 0) = (y = 0) := by simp
      have e3 : List.range [0, (x : Int), (y : Int)].length = [0, 1, 2] := rfl
      simp only [ext, ho, Bool.false_eq_true, if_false, leaves, e3, List.foldl_cons, List.foldl_nil, List.map_cons, List.map_nil, List.sum_cons, List.sum_nil, hfo, Nat.not_lt_zero,
        List.getD_cons_zero, List.getD_cons_succ, if_true, List.set_cons_zero, List.set_cons_succ, hx1, hy1]
      simp only [hfo] at key
      by_cases hx : x = 0
      · by_cases hy : y = 0
        · omega
        · simp only [hx, hy, if_true, if_false]
          have e : ((y : Int) - 1) = ((y - 1 : Nat) : Int) := by omega
          rw [e]
          have := key 2 0 (y - 1) o (by omega) (by omega) (by omega)
          rcases this with h | ⟨h1, h2, h3⟩
          · exact .inl h
          · exact .inr ⟨trivial, h2, by rw [h3]; simp⟩
      · have ex : ((x : Int) - 1) = ((x - 1 : Nat) : Int) := by omega
        simp only [hx, if_false]
        rw [ex]
        have k1 := key 1 (x - 1) y o (by omega) (by omega) (by omega)
        generalize ext n f [0, ((x - 1 : Nat) : Int), (y : Int)] (w ++ [(97 + 1).toUInt8]) _ o = o1 at *
        by_cases hy : y = 0
        · simp only [hy, if_true]
          subst hy
          rcases k1 with h | ⟨h1, h2, h3⟩
          · exact .inl h
          · exact .inr ⟨trivial, h2, by rw [h3]; simp⟩
        · have ey : ((y : Int) - 1) = ((y - 1 : Nat) : Int) := by omega
          simp only [hy, if_false]
          rw [ey]
          have k2 := key 2 x (y - 1) o1 (by omega) (by omega) (by omega)
          rcases k2 with h | ⟨h1, h2, h3⟩
          · exact .inl h
          · rcases k1 with g | ⟨g1, g2, g3⟩
            · rw [g] at h1; cases h1
            · exact .inr ⟨trivial, h2, by rw [h3, g3]; omega⟩

theorem foldl_stuck {step : Col → Nat → Col} (hf : ∀ o c, o.2 = true → step o c = o) : ∀ (l : List Nat) (o : Col), o.2 = true → l.foldl step o = o
  | [], _, _ => rfl
  | c :: l, o, h => by rw [List.foldl_cons, hf o c h]; exact foldl_stuck hf l o h

theorem getD_rep (j : Nat) (i : Nat) (h : i < j) : (List.replicate j (97 : UInt8)).getD i 0 = 97 := by
  simp [List.getD_eq_getElem?_getD, h]

theorem first_rep (j : Nat) : firstOf (List.replicate j 97) 1 = 0 := by
  unfold firstOf
  split
  · rename_i h
    rw [List.length_replicate] at h ⊢
    rw [getD_rep _ _ (by omega)]; rfl
  · rfl

theorem ext_as (m : Nat) (hm : 1 ≤ m) (h5 : 5000 < leaves (2 * m) [0, (m : Int), (m : Int)]) : ∀ (d : Nat), d ≤ m →
    (ext (3 * m) (2 * m + d) [(d : Int), m, m] (List.replicate (m - d) 97) 1 ([], false)).2 = true
  | 0, _ => by
    have := ext_lyndon (3 * m) (2 * m) m m (List.replicate m 97) 1 ([], false) (by omega) (by simp; omega) (by simp; omega) (getD_rep _ _ (by omega)) (first_rep m) (fun h => by omega)
    rcases this with h | ⟨h1, h2, h3⟩
    · exact h
    · have := ext_len (3 * m) (2 * m) [0, (m : Int), (m : Int)] (List.replicate m 97) 1 ([], false) (by simp)
      rw [h3] at this
      simp at this
      omega
  | d + 1, hd => by
    have ih := ext_as m hm h5 d (by omega)
    rw [← Nat.add_assoc]
    simp only [ext, Bool.false_eq_true, if_false]
    have hd0 : (((d + 1 : Nat) : Int) = 0) = False := by simp; omega
    have e3 : List.range [((d + 1 : Nat) : Int), (m : Int), (m : Int)].length = [0, 1, 2] := rfl
    have ew : List.replicate (m - (d + 1)) (97 : UInt8) ++ [(97 + 0).toUInt8] = List.replicate (m - d) 97 := by
      rw [show m - d = (m - (d + 1)) + 1 by omega, List.replicate_succ']; rfl
    rw [e3, List.foldl_cons, first_rep, foldl_stuck]
    · simp only [Nat.not_lt_zero, if_false, List.getD_cons_zero, hd0, List.set_cons_zero, ew]
      have : (if (List.replicate (m - (d + 1)) (97 : UInt8)).length < 1 ∨ (0 : Nat) ≠ 0 then (List.replicate (m - (d + 1)) (97 : UInt8)).length + 1 else 1) = 1 := by
        split
        · rename_i h
          rcases h with h | h
          · rw [List.length_replicate] at h ⊢; omega
          · exact absurd rfl h
        · rfl
      rw [this, show ((d + 1 : Nat) : Int) - 1 = (d : Nat) by omega]
      exact ih
    · intro o c ho
      split
      · rfl
      · split
        · rfl
        · exact ext_full _ _ _ _ _ _ ho
    · simp only [Nat.not_lt_zero, if_false, List.getD_cons_zero, hd0, List.set_cons_zero, ew]
      have : (if (List.replicate (m - (d + 1)) (97 : UInt8)).length < 1 ∨ (0 : Nat) ≠ 0 then (List.replicate (m - (d + 1)) (97 : UInt8)).length + 1 else 1) = 1 := by
        split
        · rename_i h
          rcases h with h | h
          · rw [List.length_replicate] at h ⊢; omega
          · exact absurd rfl h
        · rfl
      rw [this, show ((d + 1 : Nat) : Int) - 1 = (d : Nat) by omega]
      exact ih

theorem capSum_three (m : Nat) (h : 3 * m ≤ 60) : capSum [(m : Int), m, m] = ((3 * m : Nat) : Int) := by
  simp only [capSum, capTo, List.length_cons, List.length_nil, List.take, List.foldl_cons, List.foldl_nil]
  omega

theorem leaves_many : ∀ m : Nat, 9 ≤ m → m ≤ 20 → 5000 < leaves (2 * m) [0, (m : Int), (m : Int)] := by
  intro m h1 h2
  have h := leaves_fac (2 * m) [0, (m : Int), (m : Int)] (by simp) (by simp; omega)
  have hc : ∀ m : Nat, m < 21 → 9 ≤ m → 5000 * facs [0, (m : Int), (m : Int)] < fac (2 * m) := by decide +kernel
  have := hc m (by omega) h1
  rw [← h] at this
  exact Nat.lt_of_mul_lt_mul_right this

theorem neck_three (m : Nat) (h1 : 9 ≤ m) (h2 : m ≤ 20) : (neckOf [(m : Int), m, m]).2 = true := by
  unfold neckOf
  rw [capSum_three m (by omega), Int.toNat_natCast]
  have := ext_as m (by omega) (leaves_many m h1 h2) m (Nat.le_refl _)
  rw [Nat.sub_self, List.replicate_zero, show 2 * m + m = 3 * m by omega] at this
  exact this

/-! The sums. -/
theorem capTo_sum (l : List Int) (h : ∀ x ∈ l, 0 ≤ x) (hs : l.sum ≤ 60) : ∀ k, k ≤ l.length → capTo l k = sumK l k
  | 0, _ => by simp [capTo, sumK]
  | k + 1, hk => by
    have ih := capTo_sum l h hs k (by omega)
    have hb := sumK_bound l h (k + 1)
    have hb2 := sumK_bound l h k
    have hn := getD_nonneg h k
    rw [capTo_succ l k (by omega), ih, sumK_succ l k (by omega)]
    rw [sumK_succ l k (by omega)] at hb
    omega

theorem capSum_sum (l : List Int) (h : ∀ x ∈ l, 0 ≤ x) (hs : l.sum ≤ 60) : capSum l = l.sum := by
  unfold capSum
  rw [capTo_sum l h hs _ (Nat.le_refl _)]
  unfold sumK
  rw [List.take_length]

/-- At most four numbers up to four. -/
theorem leaves_few (l : List Int) (h4 : l.length ≤ 4) (h : ∀ x ∈ l, 0 ≤ x ∧ x ≤ 4) (f : Nat) (hs : l.sum = f) (hf : f ≤ 8) : leaves f l ≤ 5000 := by
  have hl := leaves_fac f l (fun x hx => (h x hx).1) hs
  suffices hq : fac f ≤ 5000 * facs l by
    have hp : 0 < facs l := by
      have : ∀ n, 0 < fac n := fun n => by
        induction n with
        | zero => decide
        | succ n ih => exact Nat.mul_pos (by omega) ih
      clear hl hs h h4 hq
      induction l with
      | nil => decide
      | cons y l ih => exact Nat.mul_pos (this _) ih
    rw [← hl] at hq
    exact Nat.le_of_mul_le_mul_right hq hp
  have hd : ∀ a, a < 5 → ∀ b, b < 5 → ∀ c, c < 5 → ∀ d, d < 5 → a + b + c + d ≤ 8 → fac (a + b + c + d) ≤ 5000 * (fac a * (fac b * (fac c * fac d))) := by decide +kernel
  have hu : ∀ x ∈ l, ∃ n : Nat, x = n ∧ n < 5 := fun x hx => ⟨x.toNat, by have := h x hx; omega, by have := h x hx; omega⟩
  match l, h4 with
  | [], _ =>
    obtain rfl : f = 0 := by simp at hs; omega
    decide
  | [x], _ =>
    obtain ⟨a, rfl, ha⟩ := hu x (by simp)
    have := hd a ha 0 (by omega) 0 (by omega) 0 (by omega)
    simp at hs
    simp [facs, fac] at this ⊢
    rw [show f = a by omega]; exact this (by omega)
  | [x, y], _ =>
    obtain ⟨a, rfl, ha⟩ := hu x (by simp)
    obtain ⟨b, rfl, hb⟩ := hu y (by simp)
    have := hd a ha b hb 0 (by omega) 0 (by omega)
    simp at hs
    simp [facs, fac] at this ⊢
    rw [show f = a + b by omega]; exact this (by omega)
  | [x, y, z], _ =>
    obtain ⟨a, rfl, ha⟩ := hu x (by simp)
    obtain ⟨b, rfl, hb⟩ := hu y (by simp)
    obtain ⟨c, rfl, hc⟩ := hu z (by simp)
    have := hd a ha b hb c hc 0 (by omega)
    simp at hs
    simp [facs, fac] at this ⊢
    rw [show f = a + b + c by omega]; exact this (by omega)
  | [x, y, z, t], _ =>
    obtain ⟨a, rfl, ha⟩ := hu x (by simp)
    obtain ⟨b, rfl, hb⟩ := hu y (by simp)
    obtain ⟨c, rfl, hc⟩ := hu z (by simp)
    obtain ⟨d, rfl, hd'⟩ := hu t (by simp)
    have := hd a ha b hb c hc d hd'
    simp at hs
    simp [facs] at this ⊢
    rw [show f = a + b + c + d by omega]; exact this (by omega)

/-- What Necklaces finds for few letters. -/
theorem neck_few (l : List Int) (h4 : l.length ≤ 4) (h : ∀ x ∈ l, 0 ≤ x ∧ x ≤ 4) (f : Nat) (hs : l.sum = f) (h1 : 1 ≤ f) (hf : f ≤ 8) : neckOf l = (brute f l [], false) := by
  have hc := capSum_sum l (fun x hx => (h x hx).1) (by omega)
  have hl := leaves_few l h4 h f hs hf
  have hfree := ext_free f f l [] 1 ([], false) rfl (by simpa using hl)
  have hb := ext_brute f h1 f l [] 1 ([], false) (by omega) (by simp) (.inr ⟨rfl, rfl⟩) (by simp) hfree.1
  unfold neckOf
  rw [hc, hs, Int.toNat_natCast]
  exact Prod.ext (by rw [hb]; simp) hfree.1

set_option maxRecDepth 100000 in
theorem neck_one_b : ∀ k : Nat, k < 60 → neckOf [(k : Int), 1] = ([List.replicate k 97 ++ [98]], false) := by decide +kernel

end Go.Proofs.Ytgijighdalaemaa
