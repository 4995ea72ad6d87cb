/- Plain laws: rotations of rotations, the numbers of letters, each necklace is found once. -/
import Derived.Test.YtgijighdalaemaaNeckC
import Derived.Test.YtgijighdalaemaaWordV
namespace Go.Proofs.Ytgijighdalaemaa
open Go.RowKit

/-! Rotations of rotations. -/
theorem rotl_rotl (w : List UInt8) (r k : Nat) (hr : r ≤ w.length) (hk : k ≤ w.length) (h0 : 0 < w.length) : rotl (rotl w r) k = rotl w ((r + k) % w.length) := by
  have hm : (r + k) % w.length < w.length := Nat.mod_lt _ h0
  refine eq_of_nth (by simp [rotl_length]) fun i hi => ?_
  rw [rotl_length, rotl_length] at hi
  rw [nth_rotl _ _ _ (by rw [rotl_length]; exact hk) (by rw [rotl_length]; exact hi), rotl_length, nth_rotl _ _ _ hr (Nat.mod_lt _ h0), nth_rotl _ _ _ (by omega) hi]
  congr 1
  rw [Nat.add_mod_mod, Nat.mod_add_mod, Nat.add_assoc]

theorem lb_inj {s t : ByteArray} (h : lb s = lb t) : s = t := by rw [← bs_lb s, h, bs_lb]

theorem rot_rot (s : ByteArray) (r k : Nat) (hr : r ≤ s.size) (hk : k ≤ s.size) (h0 : 0 < s.size) : rot (rot s r) k = rot s ((r + k) % s.size) := by
  have hm : (r + k) % s.size < s.size := Nat.mod_lt _ h0
  apply lb_inj
  rw [lb_rot _ _ (by rw [rot_size s r hr]; exact hk), lb_rot s r hr, lb_rot s _ (by omega), rotl_rotl _ _ _ (by rw [lb_length]; exact hr) (by rw [lb_length]; exact hk) (by rw [lb_length]; exact h0), lb_length]

theorem chk_rot (s : ByteArray) (r : Nat) (hr : r ≤ s.size) (h : chk (lb s) = 0) : chk (lb (rot s r)) = 0 := by
  obtain ⟨h0, h1⟩ := chk_zero s h
  have hl := chk_letters s h
  refine chk_good _ (by rw [rot_size s r hr]; exact h0) (by rw [rot_size s r hr]; exact h1) fun j hj => ?_
  rw [List.any_eq_false] at hl
  have hm : (rot s r)[j] ∈ lb (rot s r) := by rw [← lb_getElem _ j hj]; exact List.getElem_mem _
  rw [lb_rot s r hr, rotl] at hm
  have : (rot s r)[j] ∈ lb s := by
    rcases List.mem_append.1 hm with h | h
    · exact List.mem_of_mem_drop h
    · exact List.mem_of_mem_take h
  simpa using hl _ this

theorem rot_sum (s : ByteArray) (a b : Int) (h0 : 0 < s.size) : rot (rot s (a % s.size).toNat) (b % s.size).toNat = rot s ((a + b) % s.size).toNat := by
  have h1 := Int.emod_nonneg a (show (s.size : Int) ≠ 0 by omega)
  have h2 := Int.emod_lt_of_pos a (show (0 : Int) < s.size by omega)
  have h3 := Int.emod_nonneg b (show (s.size : Int) ≠ 0 by omega)
  have h4 := Int.emod_lt_of_pos b (show (0 : Int) < s.size by omega)
  have h5 := Int.emod_nonneg (a + b) (show (s.size : Int) ≠ 0 by omega)
  rw [rot_rot s _ _ (by omega) (by omega) h0]
  congr 1
  have : ((((a % (s.size : Int)).toNat + (b % (s.size : Int)).toNat) % s.size : Nat) : Int) = (a + b) % (s.size : Int) := by
    rw [Int.natCast_emod, Int.natCast_add, Int.toNat_of_nonneg h1, Int.toNat_of_nonneg h3, ← Int.add_emod]
  omega

theorem leastL_length (s : ByteArray) : (leastL s).length = s.size := by unfold leastL; rw [rotl_length, lb_length]

/-- The least rotation of a rotation. -/
theorem least_rot (s : ByteArray) (r : Nat) (hr : r ≤ s.size) (h0 : 0 < s.size) : rot (rot s r) (leastOf (rot s r)) = rot s (leastOf s) := by
  have hsz := rot_size s r hr
  have hl := leastAt_lt s s.size h0
  have hl2 := leastAt_lt (rot s r) (rot s r).size (by rw [hsz]; exact h0)
  change leastOf s < _ at hl
  change leastOf (rot s r) < _ at hl2
  rw [hsz] at hl2
  apply lb_inj
  have e1 : lb (rot (rot s r) (leastOf (rot s r))) = leastL (rot s r) := by
    unfold leastL; exact lb_rot _ _ (by rw [hsz]; omega)
  have e2 : lb (rot s (leastOf s)) = leastL s := by unfold leastL; exact lb_rot s _ (by omega)
  rw [e1, e2]
  apply Classical.byContradiction
  intro hne
  have hlen : (leastL (rot s r)).length = (leastL s).length := by rw [leastL_length, leastL_length, hsz]
  rcases less_total hlen hne with h | h
  · -- the least one of the rotation is a rotation of the word
    refine leastL_min s ((r + leastOf (rot s r)) % s.size) (Nat.mod_lt _ h0) ?_
    have : leastL (rot s r) = rotl (lb s) ((r + leastOf (rot s r)) % s.size) := by
      unfold leastL
      rw [lb_rot s r hr, rotl_rotl _ _ _ (by rw [lb_length]; exact hr) (by rw [lb_length]; omega) (by rw [lb_length]; exact h0), lb_length]
    rw [← this]; exact h
  · refine leastL_min (rot s r) ((leastOf s + (s.size - r)) % s.size) (by rw [hsz]; exact Nat.mod_lt _ h0) ?_
    have : leastL s = rotl (lb (rot s r)) ((leastOf s + (s.size - r)) % s.size) := by
      unfold leastL
      rw [lb_rot s r hr, rotl_rotl _ _ _ (by rw [lb_length]; exact hr) (by rw [lb_length]; exact Nat.le_of_lt (Nat.mod_lt _ h0)) (by rw [lb_length]; exact h0), lb_length, Nat.add_mod, Nat.mod_mod, ← Nat.add_mod,
        show r + (leastOf s + (s.size - r)) = leastOf s + s.size by omega, Nat.add_mod_right, Nat.mod_eq_of_lt hl]
    rw [← this]; exact h

/-! A root repeated. -/
theorem extract_lb (s : ByteArray) (k : Nat) : lb (s.extract 0 k) = (lb s).take k := by
  unfold lb
  rw [ByteArray.data_extract, Array.toList_extract]
  simp [List.extract]

theorem root_more (s : ByteArray) (N k : Nat) (hN : N ≤ s.size) (hr : rot s (N % s.size) = s) (hk : (k + 1) * N ≤ s.size) : s.extract 0 (k * N) ++ s.extract 0 N = s.extract 0 ((k + 1) * N) := by
  have hper : ∀ i, N + i < (lb s).length → nth (lb s) (N + i) = nth (lb s) i := by
    intro i hi
    rw [lb_length] at hi
    rcases Nat.lt_or_ge N s.size with h | h
    · rw [Nat.mod_eq_of_lt h] at hr
      have := lb_rot s N hN
      rw [hr] at this
      conv => rhs; rw [this]
      rw [nth_rotl _ _ _ (by rw [lb_length]; exact hN) (by rw [lb_length]; omega), lb_length, Nat.mod_eq_of_lt hi]
    · omega
  have hmul : ∀ j i, j * N + i < (lb s).length → nth (lb s) (j * N + i) = nth (lb s) i := by
    intro j
    induction j with
    | zero => intro i _; simp
    | succ j ih =>
      intro i hi
      rw [Nat.succ_mul] at hi ⊢
      rw [show j * N + N + i = N + (j * N + i) by omega, hper _ (by omega), ih i (by omega)]
  apply lb_inj
  have e : lb (s.extract 0 (k * N) ++ s.extract 0 N) = lb (s.extract 0 (k * N)) ++ lb (s.extract 0 N) := by
    unfold lb; rw [ByteArray.data_append, Array.toList_append]
  rw [Nat.succ_mul] at hk
  rw [e, extract_lb, extract_lb, extract_lb, Nat.succ_mul, List.take_add]
  congr 1
  have hl := lb_length s
  refine eq_of_nth (by simp; omega) fun i hi => ?_
  simp only [List.length_take] at hi
  have h1 : nth ((lb s).take N) i = nth (lb s) i := by simp [nth, List.getD_eq_getElem?_getD, show i < N by omega]
  have h2 : nth (((lb s).drop (k * N)).take N) i = nth (lb s) (k * N + i) := by simp [nth, List.getD_eq_getElem?_getD, show i < N by omega]
  rw [h1, h2, hmul k i (by omega)]

/-! The numbers of letters. -/
/-- How often a letter occurs. -/
def num (l : List UInt8) (c : Nat) : Nat := l.countP fun x => x.toNat - 97 == c

theorem num_snoc (l : List UInt8) (b : UInt8) (c : Nat) : num (l ++ [b]) c = num l c + if b.toNat - 97 = c then 1 else 0 := by
  unfold num
  rw [List.countP_append, List.countP_singleton]
  simp
theorem num_cons (l : List UInt8) (b : UInt8) (c : Nat) : num (b :: l) c = num l c + if b.toNat - 97 = c then 1 else 0 := by
  unfold num
  rw [List.countP_cons]
  simp

theorem bump_getD (l : List Int) (k c : Nat) : (bump l k).getD c 0 = l.getD c 0 + if k = c then 1 else 0 := by
  have hpad : ∀ j, (l ++ List.replicate (k + 1 - l.length) 0).getD j 0 = l.getD j 0 := by
    intro j
    simp only [List.getD_eq_getElem?_getD]
    by_cases h : j < l.length
    · rw [List.getElem?_append_left h]
    · rw [List.getElem?_append_right (by omega), List.getElem?_eq_none (l := l) (by omega), List.getElem?_replicate]
      split <;> rfl
  unfold bump
  have hk : k < (l ++ List.replicate (k + 1 - l.length) 0).length := by simp; omega
  have := hpad k
  simp only [this]
  by_cases h : k = c
  · subst h
    rw [List.getD_eq_getElem?_getD, List.getElem?_set_self hk]; simp
  · rw [if_neg h, List.getD_eq_getElem?_getD, List.getElem?_set_ne h, ← List.getD_eq_getElem?_getD, hpad c]; simp

theorem cnt_getD (l : List UInt8) (c : Nat) : (cnt l).getD c 0 = (num l c : Int) := by
  refine snoc_ind (p := fun l : List UInt8 => (cnt l).getD c 0 = (num l c : Int)) ?_ (fun l b ih => ?_) l
  · simp [cnt, num]
  · rw [cnt_snoc, bump_getD, ih, num_snoc]
    split <;> simp

theorem bump_sum (l : List Int) (k : Nat) : (bump l k).sum = l.sum + 1 := by
  unfold bump
  have hk : k < (l ++ List.replicate (k + 1 - l.length) 0).length := by simp; omega
  simp only
  rw [sum_set _ _ _ hk, List.sum_append]
  have : (List.replicate (k + 1 - l.length) (0 : Int)).sum = 0 := by simp
  rw [this]; omega

theorem cnt_sum (l : List UInt8) : (cnt l).sum = l.length := by
  refine snoc_ind (p := fun l : List UInt8 => (cnt l).sum = l.length) ?_ (fun l b ih => ?_) l
  · simp [cnt]
  · rw [cnt_snoc, bump_sum, ih]; simp

theorem cnt_le (l : List UInt8) (m : Nat) (h : ∀ x ∈ l, x.toNat - 97 < m) : (cnt l).length ≤ m := by
  revert h
  refine snoc_ind (p := fun l : List UInt8 => (∀ x ∈ l, x.toNat - 97 < m) → (cnt l).length ≤ m) ?_ (fun l b ih => ?_) l
  · intro _; simp [cnt]
  · intro h
    rw [cnt_snoc, bump_length]
    have h1 := ih fun x hx => h x (List.mem_append_left _ hx)
    have h2 := h b (by simp)
    omega

theorem num_rotl (l : List UInt8) (k c : Nat) : num (rotl l k) c = num l c := by
  unfold num rotl
  rw [List.countP_append, Nat.add_comm, ← List.countP_append, List.take_append_drop]

/-! Each necklace is found once. -/
theorem sum_single (g : Nat → Nat) (c0 : Nat) : ∀ n, c0 < n → (∀ c, c < n → c ≠ c0 → g c = 0) → ((List.range n).map g).sum = g c0
  | 0, h, _ => by omega
  | n + 1, h, hz => by
    rw [List.range_succ, List.map_append, List.sum_append]
    simp only [List.map_cons, List.map_nil, List.sum_cons, List.sum_nil, Nat.add_zero]
    by_cases he : c0 = n
    · subst he
      have : ((List.range c0).map g).sum = 0 := by
        have h2 : ∀ m, m ≤ c0 → ((List.range m).map g).sum = 0 := by
          intro m
          induction m with
          | zero => intro _; simp
          | succ m ih => intro hm; rw [List.range_succ, List.map_append, List.sum_append, ih (by omega)]; simp [hz m (by omega) (by omega)]
        exact h2 c0 (Nat.le_refl _)
      omega
    · rw [sum_single g c0 n (by omega) (fun c h1 h2 => hz c (by omega) h2), hz n (by omega) (by omega)]; simp

theorem brute_one : ∀ (f : Nat) (rest : List Int) (w z : List UInt8), rest.length ≤ 26 → z.length = f → (∀ b ∈ z, 97 ≤ b.toNat ∧ b.toNat - 97 < rest.length) →
    (∀ c, c < rest.length → rest.getD c 0 = (num z c : Int)) → isNeck (w ++ z) → (brute f rest w).count (w ++ z) = 1
  | 0, rest, w, z, hr, hz, hl, hc, hn => by
    obtain rfl := List.eq_nil_of_length_eq_zero hz
    rw [List.append_nil] at hn ⊢
    unfold brute
    rw [if_pos hn]; simp
  | f + 1, rest, w, z, hr, hz, hl, hc, hn => by
    obtain ⟨b, z, rfl⟩ : ∃ b t, z = b :: t := by
      cases z with
      | nil => simp at hz
      | cons b t => exact ⟨b, t, rfl⟩
    obtain ⟨hb1, hb2⟩ := hl b (by simp)
    unfold brute
    rw [List.count_flatMap]
    have eb : (97 + (b.toNat - 97)).toUInt8 = b := by
      rw [show 97 + (b.toNat - 97) = b.toNat by omega]
      exact UInt8.toNat_inj.1 (by simp)
    rw [sum_single _ (b.toNat - 97) rest.length hb2]
    · have hnz : rest.getD (b.toNat - 97) 0 ≠ 0 := by
        rw [hc _ hb2, num_cons, if_pos rfl]; omega
      simp only [Function.comp]
      rw [if_neg hnz, eb]
      have := brute_one f (rest.set (b.toNat - 97) (rest.getD (b.toNat - 97) 0 - 1)) (w ++ [b]) z (by simpa using hr) (by simpa using hz) (fun x hx => by rw [List.length_set]; exact hl x (by simp [hx])) (fun c hc2 => ?_) (by simpa using hn)
      · simpa using this
      · rw [List.length_set] at hc2
        by_cases he : b.toNat - 97 = c
        · subst he
          rw [List.getD_eq_getElem?_getD, List.getElem?_set_self hb2, hc _ hb2, num_cons]
          simp
        · rw [List.getD_eq_getElem?_getD, List.getElem?_set_ne he, ← List.getD_eq_getElem?_getD, hc c hc2, num_cons, if_neg he]
          simp
    · intro c hc2 hne
      simp only [Function.comp]
      split
      · simp
      · rw [List.count_eq_zero]
        intro hm
        obtain ⟨⟨z', hz'⟩, _⟩ := brute_mem f _ _ _ hm
        rw [List.append_assoc] at hz'
        have h2 := List.append_cancel_left hz'
        simp only [List.singleton_append, List.cons.injEq] at h2
        have h3 := congrArg UInt8.toNat h2.1
        rw [u8_toNat _ (by omega)] at h3
        omega

/-- The least rotation is found once among the necklaces with its letters. -/
theorem least_once (s : ByteArray) (h0 : 0 < s.size) (hl : ∀ x ∈ lb s, 97 ≤ x.toNat ∧ x.toNat ≤ 122) : (brute s.size (cnt (lb s)) []).count (leastL s) = 1 := by
  have hlt := leastAt_lt s s.size h0
  change leastOf s < _ at hlt
  have hmem : ∀ x, x ∈ leastL s → x ∈ lb s := fun x hx => by
    unfold leastL rotl at hx
    rcases List.mem_append.1 hx with h | h
    · exact List.mem_of_mem_drop h
    · exact List.mem_of_mem_take h
  have := brute_one s.size (cnt (lb s)) [] (leastL s) (cnt_le _ 26 fun x hx => by have := hl x hx; omega) (leastL_length s)
    (fun b hb => ⟨(hl b (hmem b hb)).1, cnt_bound (lb s) b (hmem b hb)⟩) (fun c _ => by rw [cnt_getD]; unfold leastL; rw [num_rotl]) ?_
  · simpa using this
  · rw [List.nil_append]
    intro k hk hless
    rw [leastL_length] at hk
    refine leastL_min s ((leastOf s + k) % s.size) (Nat.mod_lt _ h0) ?_
    have : rotl (leastL s) k = rotl (lb s) ((leastOf s + k) % s.size) := by
      unfold leastL
      rw [rotl_rotl _ _ _ (by rw [lb_length]; omega) (by rw [lb_length]; omega) (by rw [lb_length]; exact h0), lb_length]
    rw [← this]; exact hless

/-- What Necklaces finds for at most seven letters out of four. -/
theorem leaves_seven (l : List Int) (h4 : l.length ≤ 4) (h : ∀ x ∈ l, 0 ≤ x) (f : Nat) (hs : l.sum = f) (hf : f ≤ 7) : leaves f l ≤ 5000 := by
  have hl := leaves_fac f l h hs
  suffices hq : fac f ≤ 5000 * facs l by
    have hp : 0 < facs l := by
      have : ∀ n, 0 < fac n := fun n => by
        induction n with
        | zero => decide
        | succ n ih => exact Nat.mul_pos (by omega) ih
      clear hl hs h h4 hq
      induction l with
      | nil => decide
      | cons y l ih => exact Nat.mul_pos (this _) ih
    rw [← hl] at hq
    exact Nat.le_of_mul_le_mul_right hq hp
  have hd : ∀ a, a < 8 → ∀ b, b < 8 → ∀ c, c < 8 → ∀ d, d < 8 → a + b + c + d ≤ 7 → fac (a + b + c + d) ≤ 5000 * (fac a * (fac b * (fac c * fac d))) := by decide +kernel
  have hu : ∀ x ∈ l, ∃ n : Nat, x = n := fun x hx => ⟨x.toNat, by have := h x hx; omega⟩
  match l, h4 with
  | [], _ =>
    obtain rfl : f = 0 := by simp at hs; omega
    decide
  | [x], _ =>
    obtain ⟨a, rfl⟩ := hu x (by simp)
    simp at hs
    have := hd a (by omega) 0 (by omega) 0 (by omega) 0 (by omega)
    simp [facs, fac] at this ⊢
    rw [show f = a by omega]; exact this (by omega)
  | [x, y], _ =>
    obtain ⟨a, rfl⟩ := hu x (by simp)
    obtain ⟨b, rfl⟩ := hu y (by simp)
    simp at hs
    have := hd a (by omega) b (by omega) 0 (by omega) 0 (by omega)
    simp [facs, fac] at this ⊢
    rw [show f = a + b by omega]; exact this (by omega)
  | [x, y, z], _ =>
    obtain ⟨a, rfl⟩ := hu x (by simp)
    obtain ⟨b, rfl⟩ := hu y (by simp)
    obtain ⟨c, rfl⟩ := hu z (by simp)
    simp at hs
    have := hd a (by omega) b (by omega) c (by omega) 0 (by omega)
    simp [facs, fac] at this ⊢
    rw [show f = a + b + c by omega]; exact this (by omega)
  | [x, y, z, t], _ =>
    obtain ⟨a, rfl⟩ := hu x (by simp)
    obtain ⟨b, rfl⟩ := hu y (by simp)
    obtain ⟨c, rfl⟩ := hu z (by simp)
    obtain ⟨d, rfl⟩ := hu t (by simp)
    simp at hs
    have := hd a (by omega) b (by omega) c (by omega) d (by omega)
    simp [facs] at this ⊢
    rw [show f = a + b + c + d by omega]; exact this (by omega)

theorem neck_seven (l : List Int) (h4 : l.length ≤ 4) (h : ∀ x ∈ l, 0 ≤ x) (f : Nat) (hs : l.sum = f) (h1 : 1 ≤ f) (hf : f ≤ 7) : neckOf l = (brute f l [], false) := by
  have hc := capSum_sum l h (by omega)
  have hl := leaves_seven l h4 h f hs hf
  have hfree := ext_free f f l [] 1 ([], false) rfl (by simpa using hl)
  have hb := ext_brute f h1 f l [] 1 ([], false) (by omega) (by simp) (.inr ⟨rfl, rfl⟩) (by simp) hfree.1
  unfold neckOf
  rw [hc, hs, Int.toNat_natCast]
  exact Prod.ext (by rw [hb]; simp) hfree.1

end Go.Proofs.Ytgijighdalaemaa
