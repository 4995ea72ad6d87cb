/- Plain laws: balanced words are the conjugates of Christoffel words (sums of a periodic function with values 0 and 1). -/
import Derived.Test.YtgijighdalaemaaNeckD
namespace Go.Proofs.Ytgijighdalaemaa
open Go.RowKit

/-- Sums of the first numbers. -/
def sumTo (x : Nat → Nat) : Nat → Nat
  | 0 => 0
  | i + 1 => sumTo x i + x i

section
variable {x : Nat → Nat} {n : Nat}

theorem sumTo_per (hp : ∀ i, x (i + n) = x i) (i : Nat) : sumTo x (i + n) = sumTo x i + sumTo x n := by
  induction i with
  | zero => simp [sumTo]
  | succ i ih => rw [Nat.add_right_comm]; simp only [sumTo, ih, hp]; omega

theorem sumTo_perq (hp : ∀ i, x (i + n) = x i) (q i : Nat) : sumTo x (i + q * n) = sumTo x i + q * sumTo x n := by
  induction q with
  | zero => simp
  | succ q ih => rw [Nat.succ_mul, ← Nat.add_assoc, sumTo_per hp, ih, Nat.succ_mul, Nat.add_assoc]

/-- The sum of all windows of one length. -/
def winSum (x : Nat → Nat) (l : Nat) : Nat → Int
  | 0 => 0
  | j + 1 => winSum x l j + ((sumTo x (j + l) : Int) - sumTo x j)

theorem winSum_succ (l j : Nat) : winSum x (l + 1) j = winSum x l j + ((sumTo x (j + l) : Int) - sumTo x l) := by
  induction j with
  | zero => simp [winSum]
  | succ j ih =>
    simp only [winSum, ih]
    have e1 : j + (l + 1) = (j + l) + 1 := by omega
    have e2 : j + 1 + l = (j + l) + 1 := by omega
    rw [e1, e2]
    simp only [sumTo]
    omega

theorem winSum_all (hp : ∀ i, x (i + n) = x i) (l : Nat) : winSum x l n = l * (sumTo x n : Int) := by
  induction l with
  | zero =>
    have : ∀ j, winSum x 0 j = 0 := by
      intro j
      induction j with
      | zero => rfl
      | succ j ih => simp [winSum, ih]
    rw [this]; simp
  | succ l ih =>
    rw [winSum_succ, ih, show n + l = l + n by omega, sumTo_per hp]
    push_cast
    rw [Int.add_mul]
    omega

/-- All windows of one length have the same sum, but for 1. -/
def Even (x : Nat → Nat) : Prop := ∀ i j l, sumTo x (i + l) + sumTo x j ≤ sumTo x (j + l) + sumTo x i + 1

theorem winSum_ge (l : Nat) (m : Int) (k : Nat) (h : ∀ j, j < k → m ≤ (sumTo x (j + l) : Int) - sumTo x j) : k * m ≤ winSum x l k := by
  induction k with
  | zero => simp [winSum]
  | succ k ih =>
    have h1 := ih (fun j hj => h j (by omega))
    have h2 := h k (by omega)
    simp only [winSum]
    rw [show ((k + 1 : Nat) : Int) * m = k * m + m by push_cast; rw [Int.add_mul]; omega]
    omega

theorem winSum_le (l : Nat) (m : Int) (k : Nat) (h : ∀ j, j < k → (sumTo x (j + l) : Int) - sumTo x j ≤ m) : winSum x l k ≤ k * m := by
  induction k with
  | zero => simp [winSum]
  | succ k ih =>
    have h1 := ih (fun j hj => h j (by omega))
    have h2 := h k (by omega)
    simp only [winSum]
    rw [show ((k + 1 : Nat) : Int) * m = k * m + m by push_cast; rw [Int.add_mul]; omega]
    omega

/-- A window's sum against the mean. -/
theorem win_up (hn : 0 < n) (hp : ∀ i, x (i + n) = x i) (he : Even x) (i l : Nat) : (n : Int) * ((sumTo x (i + l) : Int) - sumTo x i) < l * (sumTo x n : Int) + n := by
  apply Int.lt_of_not_ge
  intro hge
  -- then every window has at least one less, and the one at i mod n more
  have hi : ((sumTo x (i % n + l) : Int) - sumTo x (i % n)) = (sumTo x (i + l) : Int) - sumTo x i := by
    have e : i % n + i / n * n = i := by rw [Nat.mul_comm]; exact Nat.mod_add_div i n
    have h1 := sumTo_perq hp (i / n) (i % n + l)
    have h2 := sumTo_perq hp (i / n) (i % n)
    rw [show i % n + l + i / n * n = i + l by omega] at h1
    rw [e] at h2
    omega
  have hall : ∀ j, j < n → (sumTo x (i + l) : Int) - sumTo x i - 1 ≤ (sumTo x (j + l) : Int) - sumTo x j := fun j _ => by
    have := he i j l; omega
  have key : ∀ k, k ≤ n → i % n < k → k * ((sumTo x (i + l) : Int) - sumTo x i - 1) + 1 ≤ winSum x l k := by
    intro k
    induction k with
    | zero => intro _ h; omega
    | succ k ih =>
      intro hk hik
      simp only [winSum]
      rw [show ((k + 1 : Nat) : Int) * ((sumTo x (i + l) : Int) - sumTo x i - 1) = k * ((sumTo x (i + l) : Int) - sumTo x i - 1) + ((sumTo x (i + l) : Int) - sumTo x i - 1) by push_cast; rw [Int.add_mul]; omega]
      by_cases h : i % n = k
      · have h1 := winSum_ge (x := x) l ((sumTo x (i + l) : Int) - sumTo x i - 1) k (fun j hj => hall j (by omega))
        rw [h] at hi
        omega
      · have h1 := ih (by omega) (by omega)
        have h2 := hall k (by omega)
        omega
  have h1 := key n (Nat.le_refl _) (Nat.mod_lt _ hn)
  rw [winSum_all hp, Int.mul_sub] at h1
  omega

theorem win_down (hn : 0 < n) (hp : ∀ i, x (i + n) = x i) (he : Even x) (i l : Nat) : l * (sumTo x n : Int) - n < (n : Int) * ((sumTo x (i + l) : Int) - sumTo x i) := by
  apply Int.lt_of_not_ge
  intro hge
  have hi : ((sumTo x (i % n + l) : Int) - sumTo x (i % n)) = (sumTo x (i + l) : Int) - sumTo x i := by
    have e : i % n + i / n * n = i := by rw [Nat.mul_comm]; exact Nat.mod_add_div i n
    have h1 := sumTo_perq hp (i / n) (i % n + l)
    have h2 := sumTo_perq hp (i / n) (i % n)
    rw [show i % n + l + i / n * n = i + l by omega] at h1
    rw [e] at h2
    omega
  have hall : ∀ j, j < n → (sumTo x (j + l) : Int) - sumTo x j ≤ (sumTo x (i + l) : Int) - sumTo x i + 1 := fun j _ => by
    have := he j i l; omega
  have key : ∀ k, k ≤ n → i % n < k → winSum x l k ≤ k * ((sumTo x (i + l) : Int) - sumTo x i + 1) - 1 := by
    intro k
    induction k with
    | zero => intro _ h; omega
    | succ k ih =>
      intro hk hik
      simp only [winSum]
      rw [show ((k + 1 : Nat) : Int) * ((sumTo x (i + l) : Int) - sumTo x i + 1) = k * ((sumTo x (i + l) : Int) - sumTo x i + 1) + ((sumTo x (i + l) : Int) - sumTo x i + 1) by push_cast; rw [Int.add_mul]; omega]
      by_cases h : i % n = k
      · have h1 := winSum_le (x := x) l ((sumTo x (i + l) : Int) - sumTo x i + 1) k (fun j hj => hall j (by omega))
        rw [h] at hi
        omega
      · have h1 := ih (by omega) (by omega)
        have h2 := hall k (by omega)
        omega
  have h1 := key n (Nat.le_refl _) (Nat.mod_lt _ hn)
  rw [winSum_all hp, Int.mul_add] at h1
  omega

/-- A place where a function on the first numbers is greatest. -/
theorem exists_max (f : Nat → Int) (n : Nat) (hn : 0 < n) : ∃ i, i < n ∧ ∀ j, j < n → f j ≤ f i := by
  induction n with
  | zero => omega
  | succ n ih =>
    rcases Nat.eq_zero_or_pos n with h | h
    · subst h; exact ⟨0, by omega, fun j hj => by rw [show j = 0 by omega]; exact Int.le_refl _⟩
    · obtain ⟨i, hi, hm⟩ := ih h
      by_cases hc : f i ≤ f n
      · refine ⟨n, by omega, fun j hj => ?_⟩
        rcases Nat.lt_or_ge j n with h1 | h1
        · exact Int.le_trans (hm j h1) hc
        · rw [show j = n by omega]; exact Int.le_refl _
      · refine ⟨i, by omega, fun j hj => ?_⟩
        rcases Nat.lt_or_ge j n with h1 | h1
        · exact hm j h1
        · rw [show j = n by omega]; omega

theorem floor_of (a : Nat) (l B n : Nat) (hn : 0 < n) (h1 : (n : Int) * a ≤ l * (B : Int)) (h2 : l * (B : Int) - n < (n : Int) * a) : a = l * B / n := by
  have h1' : n * a ≤ l * B := by exact_mod_cast h1
  have h2' : l * B < n * a + n := by
    have : ((l * B : Nat) : Int) < ((n * a + n : Nat) : Int) := by push_cast; omega
    exact_mod_cast this
  symm
  rw [Nat.div_eq_iff hn]
  rw [Nat.mul_comm a n]
  omega

/-- An even word begins somewhere like the word of its mean. -/
theorem even_conj (hn : 0 < n) (hp : ∀ i, x (i + n) = x i) (he : Even x) : ∃ i, i < n ∧ ∀ l, sumTo x (i + l) = sumTo x i + l * sumTo x n / n := by
  obtain ⟨i, hi, hm⟩ := exists_max (fun j => (n : Int) * sumTo x j - j * (sumTo x n : Int)) n hn
  refine ⟨i, hi, fun l => ?_⟩
  have hle : (n : Int) * ((sumTo x (i + l) : Int) - sumTo x i) ≤ l * (sumTo x n : Int) := by
    have h1 := hm ((i + l) % n) (Nat.mod_lt _ hn)
    have e : (i + l) % n + (i + l) / n * n = i + l := by rw [Nat.mul_comm]; exact Nat.mod_add_div _ n
    have h2 := sumTo_perq hp ((i + l) / n) ((i + l) % n)
    rw [e] at h2
    generalize (i + l) % n = r at *
    generalize (i + l) / n = q at *
    have h2' : (sumTo x (i + l) : Int) = sumTo x r + q * (sumTo x n : Int) := by exact_mod_cast h2
    have e' : (r : Int) + q * n = i + l := by exact_mod_cast e
    generalize (sumTo x n : Int) = B at *
    generalize (sumTo x (i + l) : Int) = u at *
    generalize (sumTo x r : Int) = v at *
    generalize (sumTo x i : Int) = z at *
    subst h2'
    have : (l : Int) = r + q * n - i := by omega
    rw [this]
    have a1 : (n : Int) * (v + q * B - z) = n * v + n * (q * B) - n * z := by rw [Int.mul_sub, Int.mul_add]
    have a2 : ((r : Int) + q * n - i) * B = r * B + q * n * B - i * B := by rw [Int.sub_mul, Int.add_mul]
    have a3 : (n : Int) * (q * B) = q * n * B := by rw [← Int.mul_assoc, Int.mul_comm (n : Int)]
    omega
  have hlt := win_down hn hp he i l
  have hge : sumTo x i ≤ sumTo x (i + l) := by
    clear hle hlt
    induction l with
    | zero => exact Nat.le_refl _
    | succ l ih => exact Nat.le_trans ih (by show _ ≤ sumTo x (i + l) + x (i + l); omega)
  have := floor_of (sumTo x (i + l) - sumTo x i) l (sumTo x n) n hn (by rw [Int.ofNat_sub hge]; exact hle) (by rw [Int.ofNat_sub hge]; exact hlt)
  omega

theorem div_add_lo (a b n : Nat) : a / n + b / n ≤ (a + b) / n := by
  rcases Nat.eq_zero_or_pos n with h | h
  · subst h; simp
  · rw [Nat.le_div_iff_mul_le h, Nat.add_mul]
    have := Nat.div_mul_le_self a n; have := Nat.div_mul_le_self b n; omega
theorem div_add_hi (a b n : Nat) (h : 0 < n) : (a + b) / n ≤ a / n + b / n + 1 := by
  rw [← Nat.lt_succ_iff, Nat.div_lt_iff_lt_mul h]
  have h1 := Nat.lt_div_mul_add h (a := a); have h2 := Nat.lt_div_mul_add h (a := b)
  rw [show (a / n + b / n + 1).succ = a / n + b / n + 1 + 1 from rfl, Nat.add_mul, Nat.add_mul, Nat.add_mul]
  omega

theorem conj_even (hn : 0 < n) (hp : ∀ i, x (i + n) = x i) (i0 : Nat) (hi : i0 < n) (h : ∀ l, sumTo x (i0 + l) = sumTo x i0 + l * sumTo x n / n) : Even x := by
  have key : ∀ i l, l * sumTo x n / n + sumTo x i ≤ sumTo x (i + l) ∧ sumTo x (i + l) ≤ l * sumTo x n / n + sumTo x i + 1 := by
    intro i l
    have h1 := h (i + n - i0)
    have h2 := h (i + n - i0 + l)
    have p1 := sumTo_per hp i
    have p2 := sumTo_per hp (i + l)
    rw [show i0 + (i + n - i0) = i + n by omega] at h1
    rw [show i0 + (i + n - i0 + l) = i + l + n by omega, Nat.add_mul] at h2
    have d1 := div_add_lo ((i + n - i0) * sumTo x n) (l * sumTo x n) n
    have d2 := div_add_hi ((i + n - i0) * sumTo x n) (l * sumTo x n) n hn
    omega
  intro i j l
  have h1 := (key i l).2
  have h2 := (key j l).1
  omega
end

end Go.Proofs.Ytgijighdalaemaa
