/- Plain laws of words: both searches for a counterexample agree; described words are right. -/
import Derived.Test.YtgijighdalaemaaWordR
namespace Go.Proofs.Ytgijighdalaemaa
open Go.RowKit

theorem cnt_bound (l : List UInt8) : ∀ x ∈ l, x.toNat - 97 < (cnt l).length := by
  refine snoc_ind (p := fun l => ∀ x ∈ l, x.toNat - 97 < (cnt l).length) ?_ (fun l c ih => ?_) l
  · intro x hx; simp at hx
  · intro x hx
    rw [cnt_snoc, bump_length]
    rcases List.mem_append.1 hx with hx | hx
    · have := ih x hx; omega
    · have : x = c := by simpa using hx
      subst this; omega

theorem partTo_zero (s : ByteArray) (h0 : 0 < s.size) (f : Nat) (c : UInt8) (hc : c ∉ lb s) (n : Nat) : partTo s f c n = 0 := by
  induction n with
  | zero => rfl
  | succ n ih =>
    simp only [partTo, ih, Nat.zero_add]
    have hm : (f + n) % s.size < (lb s).length := by rw [lb_length]; exact Nat.mod_lt _ h0
    rw [if_neg]
    rw [List.getD_eq_getElem?_getD, List.getElem?_eq_getElem hm]
    intro e
    exact hc (e ▸ List.getElem_mem hm)

theorem bad_lt (s : ByteArray) (h0 : 0 < s.size) (n i j c : Nat) (hc : c < 26) (hb : bad s n i j c) : c < (cnt (lb s)).length := by
  rcases Nat.lt_or_ge c (cnt (lb s)).length with h | h
  · exact h
  · have hn : (97 + c).toUInt8 ∉ lb s := fun hm => by
      have := cnt_bound (lb s) _ hm
      rw [u8_toNat _ (by omega)] at this
      omega
    unfold bad at hb
    rw [partTo_zero s h0 i _ hn n, partTo_zero s h0 j _ hn n] at hb
    omega

section
variable {s : ByteArray} {m n i j c n' i' j' c' : Nat}

theorem okC_iff (h0 : 0 < s.size) (hm : (cnt (lb s)).length ≤ 26) (n i j : Nat) : okC s n i j 26 ↔ okC s n i j (cnt (lb s)).length :=
  ⟨fun h c hc => h c (by omega), fun h c hc hb => h c (bad_lt s h0 n i j c hc hb) hb⟩
theorem okJ_iff (h0 : 0 < s.size) (hm : (cnt (lb s)).length ≤ 26) (n i k : Nat) : okJ s 26 n i k ↔ okJ s (cnt (lb s)).length n i k :=
  ⟨fun h j h1 h2 => (okC_iff h0 hm n i j).1 (h j h1 h2), fun h j h1 h2 => (okC_iff h0 hm n i j).2 (h j h1 h2)⟩
theorem okI_iff (h0 : 0 < s.size) (hm : (cnt (lb s)).length ≤ 26) (n k : Nat) : okI s 26 n k ↔ okI s (cnt (lb s)).length n k :=
  ⟨fun h i h1 => (okJ_iff h0 hm n i _).1 (h i h1), fun h i h1 => (okJ_iff h0 hm n i _).2 (h i h1)⟩
theorem okN_iff (h0 : 0 < s.size) (hm : (cnt (lb s)).length ≤ 26) (k : Nat) : okN s 26 k ↔ okN s (cnt (lb s)).length k :=
  ⟨fun h n h1 h2 => (okI_iff h0 hm n _).1 (h n h1 h2), fun h n h1 h2 => (okI_iff h0 hm n _).2 (h n h1 h2)⟩

theorem found_iff (h0 : 0 < s.size) (hm : (cnt (lb s)).length ≤ 26) (h : Found s 26 n i j c) : Found s (cnt (lb s)).length n i j c :=
  ⟨h.n1, h.n2, h.ij, h.j2, bad_lt s h0 n i j c h.c2 h.isBad, h.isBad, h.hc, (okJ_iff h0 hm _ _ _).1 h.hj, (okI_iff h0 hm _ _).1 h.hi, (okN_iff h0 hm _).1 h.hn⟩

theorem found_not_ok (h : Found s m n i j c) : ¬ okN s m s.size := fun hk =>
  hk n h.n1 h.n2 i (Nat.lt_trans h.ij h.j2) j h.ij h.j2 c h.c2 h.isBad

theorem found_unique (h : Found s m n i j c) (h' : Found s m n' i' j' c') : n = n' ∧ i = i' ∧ j = j' ∧ c = c' := by
  have a1 := h.ij; have a2 := h.j2; have b1 := h'.ij; have b2 := h'.j2
  have hn : n = n' := by
    rcases Nat.lt_trichotomy n n' with h1 | h1 | h1
    · exact absurd h.isBad (h'.hn n h.n1 h1 i (by omega) j h.ij h.j2 c h.c2)
    · exact h1
    · exact absurd h'.isBad (h.hn n' h'.n1 h1 i' (by omega) j' h'.ij h'.j2 c' h'.c2)
  subst hn
  have hi : i = i' := by
    rcases Nat.lt_trichotomy i i' with h1 | h1 | h1
    · exact absurd h.isBad (h'.hi i h1 j h.ij h.j2 c h.c2)
    · exact h1
    · exact absurd h'.isBad (h.hi i' h1 j' h'.ij h'.j2 c' h'.c2)
  subst hi
  have hj : j = j' := by
    rcases Nat.lt_trichotomy j j' with h1 | h1 | h1
    · exact absurd h.isBad (h'.hj j h.ij h1 c h.c2)
    · exact h1
    · exact absurd h'.isBad (h.hj j' h'.ij h1 c' h'.c2)
  subst hj
  refine ⟨rfl, rfl, rfl, ?_⟩
  rcases Nat.lt_trichotomy c c' with h1 | h1 | h1
  · exact absurd h.isBad (h'.hc c h1)
  · exact h1
  · exact absurd h'.isBad (h.hc c' h1)
end

theorem mk_mem (l : List UInt8) (few : UInt8) : ∀ x ∈ mk l few, 97 ≤ x.toNat ∧ x.toNat ≤ 100 := by
  intro x hx
  unfold mk at hx
  split at hx
  · have : x = 97 := by simpa using hx
    subst this; decide
  · unfold mkTo at hx
    obtain ⟨y, _, rfl⟩ := List.mem_map.1 hx
    have := lt4_le few y
    rw [u8_toNat _ (by omega)]
    omega

theorem mk_length (l : List UInt8) (few : UInt8) : 0 < (mk l few).length ∧ (mk l few).length ≤ 14 := by
  unfold mk
  split
  · decide
  · rename_i h
    have : 0 < l.length := List.length_pos_iff.2 h
    simp [mkTo]; omega

/-- A described word is right. -/
theorem chk_mk (l : List UInt8) (few : UInt8) : chk (lb (bs (mk l few))) = 0 := by
  obtain ⟨h1, h2⟩ := mk_length l few
  refine chk_good _ (by rw [bs_size]; exact h1) (by rw [bs_size]; omega) fun j hj => ?_
  have hm : (bs (mk l few))[j] ∈ mk l few := by
    have := lb_getElem (bs (mk l few)) j hj
    rw [← this]
    have : lb (bs (mk l few)) = mk l few := lb_bs _
    simp only [this]
    exact List.getElem_mem _
  have := mk_mem l few _ hm
  exact good_of _ (by omega) (by omega)

end Go.Proofs.Ytgijighdalaemaa
