/- Plain laws: a word with letters a and b is balanced just if it is a rotation of its Christoffel word. -/
import Derived.Test.YtgijighdalaemaaBal
import Derived.Test.YtgijighdalaemaaWordS
namespace Go.Proofs.Ytgijighdalaemaa
open Go.RowKit

/-- 1 at the letters b, read around. -/
def xb (s : ByteArray) (i : Nat) : Nat := if (lb s).getD (i % s.size) 0 = 98 then 1 else 0

theorem xb_per (s : ByteArray) (i : Nat) : xb s (i + s.size) = xb s i := by unfold xb; rw [Nat.add_mod_right]
theorem xb_mod (s : ByteArray) (i : Nat) : xb s (i % s.size) = xb s i := by unfold xb; rw [Nat.mod_mod]

theorem partTo_b (s : ByteArray) (f : Nat) : ∀ l, partTo s f 98 l + sumTo (xb s) f = sumTo (xb s) (f + l)
  | 0 => by simp [partTo]
  | l + 1 => by
    have ih := partTo_b s f l
    rw [← Nat.add_assoc]
    simp only [partTo, sumTo, xb]
    omega

/-- All letters are a or b. -/
def AB (s : ByteArray) : Prop := ∀ x ∈ lb s, x = 97 ∨ x = 98

theorem AB.at {s : ByteArray} (h : AB s) (h0 : 0 < s.size) (i : Nat) : (lb s).getD (i % s.size) 0 = 97 ∨ (lb s).getD (i % s.size) 0 = 98 := by
  have hlt : i % s.size < (lb s).length := by rw [lb_length]; exact Nat.mod_lt _ h0
  rw [List.getD_eq_getElem?_getD, List.getElem?_eq_getElem hlt]
  exact h _ (List.getElem_mem _)

theorem partTo_a {s : ByteArray} (h : AB s) (h0 : 0 < s.size) (f : Nat) : ∀ l, partTo s f 97 l + partTo s f 98 l = l
  | 0 => by simp [partTo]
  | l + 1 => by
    have ih := partTo_a h h0 f l
    simp only [partTo]
    rcases h.at h0 (f + l) with e | e
    · rw [e, if_pos rfl, if_neg (by decide)]; omega
    · rw [e, if_pos rfl, if_neg (by decide)]; omega

theorem window_mod (s : ByteArray) (i l : Nat) : (sumTo (xb s) (i + l) : Int) - sumTo (xb s) i = (l / s.size : Nat) * (sumTo (xb s) s.size : Nat) + ((sumTo (xb s) (i % s.size + l % s.size) : Int) - sumTo (xb s) (i % s.size)) := by
  have hp := xb_per s
  have h1 := sumTo_perq hp (i / s.size + l / s.size) (i % s.size + l % s.size)
  have h2 := sumTo_perq hp (i / s.size) (i % s.size)
  have e1 : i % s.size + i / s.size * s.size = i := by rw [Nat.mul_comm]; exact Nat.mod_add_div _ _
  have e2 : l % s.size + l / s.size * s.size = l := by rw [Nat.mul_comm]; exact Nat.mod_add_div _ _
  rw [e1] at h2
  rw [show i % s.size + l % s.size + (i / s.size + l / s.size) * s.size = i + l by rw [Nat.add_mul]; omega, Nat.add_mul] at h1
  rw [h1, h2]
  push_cast
  omega

theorem bad_b (s : ByteArray) (n i j : Nat) : bad s n i j 1 ↔ (1 : Int) < (partTo s i 98 n : Int) - partTo s j 98 n ∨ (partTo s i 98 n : Int) - partTo s j 98 n < -1 := Iff.rfl
theorem bad_a (s : ByteArray) (n i j : Nat) : bad s n i j 0 ↔ (1 : Int) < (partTo s i 97 n : Int) - partTo s j 97 n ∨ (partTo s i 97 n : Int) - partTo s j 97 n < -1 := Iff.rfl

theorem ok_even {s : ByteArray} (h : AB s) (h0 : 0 < s.size) : okN s 26 s.size ↔ Even (xb s) := by
  constructor
  · intro hok i j l
    have hi := window_mod s i l
    have hj := window_mod s j l
    have hlt := Nat.mod_lt l h0
    have hit := Nat.mod_lt i h0
    have hjt := Nat.mod_lt j h0
    generalize i % s.size = a at *
    generalize j % s.size = b at *
    generalize l % s.size = k at *
    have pa := partTo_b s a k
    have pb := partTo_b s b k
    have hd : (sumTo (xb s) (a + k) : Int) - sumTo (xb s) a ≤ (sumTo (xb s) (b + k) : Int) - sumTo (xb s) b + 1 := by
      rcases Nat.eq_zero_or_pos k with hk | hk
      · subst hk; simp
      · rcases Nat.lt_trichotomy a b with hab | hab | hab
        · have := (not_congr (bad_b s k a b)).1 (hok k hk hlt a hit b hab hjt 1 (by omega))
          omega
        · subst hab; omega
        · have := (not_congr (bad_b s k b a)).1 (hok k hk hlt b hjt a hab hit 1 (by omega))
          omega
    omega
  · intro he n hn hns i hi j hij hj c hc hb
    have e1 := he i j n
    have e2 := he j i n
    have pi := partTo_b s i n
    have pj := partTo_b s j n
    have ai := partTo_a h h0 i n
    have aj := partTo_a h h0 j n
    by_cases hc1 : c = 1
    · subst hc1
      have := (bad_b s n i j).1 hb
      omega
    · by_cases hc0 : c = 0
      · subst hc0
        have := (bad_a s n i j).1 hb
        omega
      · have hz : (97 + c).toUInt8 ∉ lb s := by
          intro hm
          rcases h _ hm with e | e
          · have := congrArg UInt8.toNat e
            rw [u8_toNat _ (by omega)] at this
            simp at this; omega
          · have := congrArg UInt8.toNat e
            rw [u8_toNat _ (by omega)] at this
            simp at this; omega
        unfold bad at hb
        rw [partTo_zero s h0 i _ hz, partTo_zero s h0 j _ hz] at hb
        simp at hb

theorem sum_count (s : ByteArray) : ∀ k, k ≤ s.size → sumTo (xb s) k = ((lb s).take k).count 98
  | 0, _ => by simp [sumTo]
  | k + 1, hk => by
    have hk2 : k < (lb s).length := by rw [lb_length]; omega
    have ih := sum_count s k (by omega)
    have e : (lb s).getD k 0 = (lb s)[k] := by rw [List.getD_eq_getElem?_getD, List.getElem?_eq_getElem hk2]; rfl
    simp only [sumTo, ih, xb]
    rw [List.take_succ_eq_append_getElem hk2, List.count_append, List.count_singleton, Nat.mod_eq_of_lt (by omega), e]
    simp only [beq_iff_eq]

theorem sum_all (s : ByteArray) : sumTo (xb s) s.size = (lb s).count 98 := by
  rw [sum_count s _ (Nat.le_refl _), List.take_of_length_le (by rw [lb_length]; exact Nat.le_refl _)]

theorem chris_length (n b k : Nat) : (chrisTo n b k).length = k := by simp [chrisTo]
theorem chris_get (n b k i : Nat) (h : i < k) : (chrisTo n b k).getD i 0 = if i * b / n < (i + 1) * b / n then 98 else 97 := by
  rw [List.getD_eq_getElem?_getD]
  simp only [chrisTo, List.getElem?_map, List.getElem?_range h]
  rfl

theorem step_le (i b n : Nat) (hb : b ≤ n) (hn : 0 < n) : i * b / n ≤ (i + 1) * b / n ∧ (i + 1) * b / n ≤ i * b / n + 1 := by
  rw [Nat.succ_mul]
  refine ⟨Nat.div_le_div_right (Nat.le_add_right _ _), ?_⟩
  have : (i * b + b) / n ≤ (i * b + n) / n := Nat.div_le_div_right (by omega)
  rw [Nat.add_div_right _ hn] at this
  exact this

theorem getD_rotl (w : List UInt8) (k i : Nat) (hk : k ≤ w.length) (hi : i < w.length) : (rotl w k).getD i 0 = w.getD ((k + i) % w.length) 0 := UInt8.toNat_inj.1 (nth_rotl w k i hk hi)

/-- Balanced just if some rotation is the Christoffel word. -/
theorem even_chris {s : ByteArray} (h : AB s) (h0 : 0 < s.size) : Even (xb s) ↔ ∃ i, i < s.size ∧ rotl (lb s) i = chrisTo s.size ((lb s).count 98) s.size := by
  have hB : sumTo (xb s) s.size = (lb s).count 98 := sum_all s
  have hBn : (lb s).count 98 ≤ s.size := by rw [← lb_length]; exact List.count_le_length
  have hp := xb_per s
  constructor
  · intro he
    obtain ⟨i0, hi, hl⟩ := even_conj h0 hp he
    rw [hB] at hl
    refine ⟨i0, hi, eq_of_nth (by rw [rotl_length, lb_length, chris_length]) fun j hj => ?_⟩
    rw [rotl_length, lb_length] at hj
    unfold nth
    rw [getD_rotl _ _ _ (by rw [lb_length]; omega) (by rw [lb_length]; exact hj), lb_length, chris_get _ _ _ _ hj]
    have h1 := hl j
    have h2 := hl (j + 1)
    rw [← Nat.add_assoc] at h2
    simp only [sumTo] at h2
    have hx : xb s (i0 + j) = (j + 1) * (lb s).count 98 / s.size - j * (lb s).count 98 / s.size := by omega
    unfold xb at hx
    rcases h.at h0 (i0 + j) with e | e
    · rw [e] at hx ⊢
      rw [if_neg (by decide)] at hx
      rw [if_neg (by omega)]
    · rw [e] at hx ⊢
      rw [if_pos rfl] at hx
      rw [if_pos (by omega)]
  · rintro ⟨i0, hi, hr⟩
    refine conj_even (n := s.size) h0 hp i0 hi ?_
    rw [hB]
    have hx : ∀ j, j < s.size → xb s (i0 + j) = (j + 1) * (lb s).count 98 / s.size - j * (lb s).count 98 / s.size := by
      intro j hj
      have := getD_rotl (lb s) i0 j (by rw [lb_length]; omega) (by rw [lb_length]; exact hj)
      rw [hr, lb_length, chris_get _ _ _ _ hj] at this
      unfold xb
      rw [← this]
      have hs := step_le j _ _ hBn h0
      split
      · rw [if_pos rfl]; omega
      · rw [if_neg (by decide)]; omega
    have hsmall : ∀ l, l ≤ s.size → sumTo (xb s) (i0 + l) = sumTo (xb s) i0 + l * (lb s).count 98 / s.size := by
      intro l
      induction l with
      | zero => intro _; simp
      | succ l ih =>
        intro hl
        rw [← Nat.add_assoc]
        simp only [sumTo]
        rw [ih (by omega), hx l (by omega)]
        have hs := step_le l _ _ hBn h0
        omega
    intro l
    have e2 : l % s.size + l / s.size * s.size = l := by rw [Nat.mul_comm]; exact Nat.mod_add_div _ _
    have h1 := sumTo_perq hp (l / s.size) (i0 + l % s.size)
    rw [show i0 + l % s.size + l / s.size * s.size = i0 + l by omega, hsmall _ (Nat.le_of_lt (Nat.mod_lt _ h0)), hB] at h1
    rw [h1]
    have e3 : l * (lb s).count 98 / s.size = l % s.size * (lb s).count 98 / s.size + l / s.size * (lb s).count 98 := by
      conv => lhs; rw [← e2]
      rw [Nat.add_mul, show l / s.size * s.size * (lb s).count 98 = s.size * (l / s.size * (lb s).count 98) by rw [Nat.mul_comm (l / s.size), Nat.mul_assoc], Nat.add_mul_div_left _ _ h0]
    omega

/-- The Christoffel word of a word's letters. -/
def chrisOf (s : ByteArray) : ByteArray := bs (chrisTo s.size ((lb s).count 98) s.size)
theorem chrisOf_size (s : ByteArray) : (chrisOf s).size = s.size := by unfold chrisOf; rw [bs_size, chris_length]

theorem rot_back {s t : ByteArray} (h : t.size = s.size) (h0 : 0 < s.size) : (∃ i, i < s.size ∧ rot s i = t) → ∃ k, k < s.size ∧ rot t k = s := by
  rintro ⟨i, hi, rfl⟩
  refine ⟨(s.size - i) % s.size, Nat.mod_lt _ h0, ?_⟩
  rw [rot_rot s i _ (by omega) (Nat.le_of_lt (Nat.mod_lt _ h0)) h0, Nat.add_mod_mod, show i + (s.size - i) = s.size by omega, Nat.mod_self, rot_zero]

theorem balanced_conj {s : ByteArray} (h : AB s) (h0 : 0 < s.size) : okN s 26 s.size ↔ ∃ k, k < s.size ∧ rot (chrisOf s) k = s := by
  rw [ok_even h h0, even_chris h h0]
  have hsz := chrisOf_size s
  have e : ∀ i, i < s.size → (rotl (lb s) i = chrisTo s.size ((lb s).count 98) s.size ↔ rot s i = chrisOf s) := fun i hi => by
    rw [rot_eq_iff s _ i (by omega)]
    unfold chrisOf
    rw [lb_bs]
  constructor
  · rintro ⟨i, hi, hr⟩
    exact rot_back hsz h0 ⟨i, hi, (e i hi).1 hr⟩
  · rintro ⟨k, hk, hr⟩
    obtain ⟨i, hi, hr⟩ := rot_back (s := chrisOf s) (t := s) hsz.symm (by rw [hsz]; exact h0) ⟨k, by rw [hsz]; exact hk, hr⟩
    rw [hsz] at hi
    exact ⟨i, hi, (e i hi).2 hr⟩

/-- Two words are rotations of each other just if their least rotations are the same. -/
theorem least_same (s t : ByteArray) (hs : t.size = s.size) (h0 : 0 < s.size) : rot s (leastOf s) = rot t (leastOf t) ↔ ∃ k, k < s.size ∧ rot t k = s := by
  have h1 := leastAt_lt s s.size h0
  have h2 := leastAt_lt t t.size (by omega)
  change leastOf s < _ at h1
  change leastOf t < _ at h2
  constructor
  · intro he
    obtain ⟨k, hk, hr⟩ := rot_back (s := s) (t := rot t (leastOf t)) (by rw [rot_size t _ (by omega)]; exact hs) h0 ⟨leastOf s, h1, he⟩
    rw [rot_rot t _ _ (by omega) (by omega) (by omega)] at hr
    exact ⟨_, by rw [← hs]; exact Nat.mod_lt _ (by omega), hr⟩
  · rintro ⟨k, hk, rfl⟩
    exact least_rot t k (by omega) (by omega)

/-! The letters. -/
theorem num_count (l : List UInt8) (h : ∀ x ∈ l, 97 ≤ x.toNat) (c : Nat) (hc : c ≤ 25) : num l c = l.count (97 + c).toUInt8 := by
  unfold num List.count
  apply List.countP_congr
  intro x hx
  have := h x hx
  simp only [beq_iff_eq]
  constructor
  · intro e
    exact UInt8.toNat_inj.1 (by rw [u8_toNat _ (by omega)]; omega)
  · rintro rfl
    rw [u8_toNat _ (by omega)]; omega

theorem ab_count (s : ByteArray) : (lb s).count 97 + (lb s).count 98 = s.size ↔ AB s := by
  unfold AB
  rw [← lb_length]
  generalize lb s = l
  induction l with
  | nil => simp
  | cons x l ih =>
    have h1 : l.count 97 + l.count 98 ≤ l.length := by
      clear ih
      induction l with
      | nil => simp
      | cons y l ih =>
        rw [List.count_cons, List.count_cons, List.length_cons]
        by_cases e : y = 97
        · subst e; simp; omega
        · by_cases e2 : y = 98
          · subst e2; simp; omega
          · simp [e, e2]; omega
    rw [List.count_cons, List.count_cons, List.length_cons]
    by_cases e : x = 97
    · subst e
      simp only [List.forall_mem_cons]
      simp
      rw [← ih]; omega
    · by_cases e2 : x = 98
      · subst e2
        simp only [List.forall_mem_cons]
        simp
        rw [← ih]; omega
      · simp only [List.forall_mem_cons]
        simp [e, e2]
        omega

theorem cnt_two (s : ByteArray) (h : ∀ x ∈ lb s, 97 ≤ x.toNat) : (cnt (lb s)).length ≤ 2 ↔ AB s := by
  constructor
  · intro hl x hx
    have h1 := cnt_bound (lb s) x hx
    have h2 := h x hx
    have : x.toNat = 97 ∨ x.toNat = 98 := by omega
    rcases this with e | e
    · exact .inl (UInt8.toNat_inj.1 e)
    · exact .inr (UInt8.toNat_inj.1 e)
  · intro hab
    refine cnt_le _ 2 fun x hx => ?_
    rcases hab x hx with rfl | rfl <;> decide

end Go.Proofs.Ytgijighdalaemaa
