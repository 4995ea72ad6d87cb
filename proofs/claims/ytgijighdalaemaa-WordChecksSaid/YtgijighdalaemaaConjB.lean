/- Walks of word.Conjugate and of the law on it. -/
import Derived.Test.YtgijighdalaemaaConjA
import Derived.Test.YtgijighdalaemaaWordW
namespace Go.Proofs.Ytgijighdalaemaa
open Go.RowKit

theorem chk_chris (s : ByteArray) (h0 : 0 < s.size) (h1 : s.size ≤ 60) : chk (lb (chrisOf s)) = 0 := by
  have hsz := chrisOf_size s
  refine chk_good _ (by omega) (by omega) fun j hj => ?_
  have hm : (chrisOf s)[j] ∈ lb (chrisOf s) := by rw [← lb_getElem _ j hj]; exact List.getElem_mem _
  unfold chrisOf at hm
  rw [lb_bs] at hm
  obtain ⟨i, _, hi⟩ := List.mem_map.1 hm
  have : (chrisOf s)[j] = 98 ∨ (chrisOf s)[j] = 97 := by
    split at hi
    · exact .inl hi.symm
    · exact .inr hi.symm
  rcases this with e | e <;> rw [e] <;> decide

theorem countB_le (l : List UInt8) (c : UInt8) : Lib.countByte l c ≤ l.length := List.count_le_length

set_option maxRecDepth 100000 in
set_option maxHeartbeats 2000000 in
/-- A word with other letters than a and b. -/
theorem conjugate_no (s : ByteArray) (w : World) (hv : chk (lb s) = 0) (hn : ¬ AB s) : Gives Try.prog 27 #[.string s] w (.tuple #[.bool false, .int .i64 0]) := by
  unfold Gives
  obtain ⟨h0, h1⟩ := chk_zero s hv
  have Hv := Lib.hid hv
  have hA : Lib.countByte s.data.toList 97 ≤ s.size := by rw [← lb_length]; exact countB_le _ _
  have hB : Lib.countByte s.data.toList 98 ≤ s.size := by rw [← lb_length]; exact countB_le _ _
  have hne : ¬ Lib.countByte s.data.toList 97 + Lib.countByte s.data.toList 98 = s.size := fun h => hn ((ab_count s).1 h)
  have Hca := Lib.hid (fun w => Try.strings_Count_one s 97 w)
  have Hcb := Lib.hid (fun w => Try.strings_Count_one s 98 w)
  clear hv hn
  generalize Lib.countByte s.data.toList 97 = a at *
  generalize Lib.countByte s.data.toList 98 = b at *
  have hne2 : ((a : Int) + b == s.size) = false := by rw [beq_eq_false_iff_ne]; omega
  have hne3 : ((a : Int) + b != s.size) = true := by rw [bne_iff_ne]; omega
  clear hne
  go_enter Try.func27, Try.ntmps27
  go_wp2_with fail
  refine (check_any s _ 0 Hv.out.symm).mono ?_
  rintro e w1 ⟨rfl, hb1⟩
  go_wp2_with fail
  refine (Hca.out _).mono ?_
  rintro e w2 ⟨rfl, rfl⟩
  go_wp2_with fail
  refine (Hcb.out _).mono ?_
  rintro e w3 ⟨rfl, rfl⟩
  go_wp2
  go_ret2
  exact ⟨rfl, hb1⟩

/-- A word is a rotation of its Christoffel word. -/
def IsConj (s : ByteArray) : Prop := ∃ k, k < s.size ∧ rot (chrisOf s) k = s

set_option maxRecDepth 100000 in
set_option maxHeartbeats 2000000 in
/-- A word with letters a and b. -/
theorem conjugate_yes (s : ByteArray) (w : World) (hv : chk (lb s) = 0) (hn : AB s) (r : Bool) (hr : r = true ↔ IsConj s) : Gives Try.prog 27 #[.string s] w (.tuple #[.bool r, .int .i64 0]) := by
  unfold Gives
  obtain ⟨h0, h1⟩ := chk_zero s hv
  have Hv := Lib.hid hv
  have heq : Lib.countByte s.data.toList 97 + Lib.countByte s.data.toList 98 = s.size := (ab_count s).2 hn
  have Hca := Lib.hid (fun w => Try.strings_Count_one s 97 w)
  have Hcb := Lib.hid (fun w => Try.strings_Count_one s 98 w)
  obtain ⟨D, hb, hsame, hcall⟩ := same_out (chrisOf s) s (chk_chris s h0 h1) hv
  have hrb : hb = r := by
    have hsz := chrisOf_size s
    rcases hsame with ⟨rfl, g1, g2, _⟩ | ⟨rfl, _, g2⟩
    · exact (hr.2 ⟨D, by omega, g2⟩).symm
    · cases r with
      | false => rfl
      | true =>
        obtain ⟨k, hk, he⟩ := hr.1 rfl
        exact absurd he (g2 k (by omega))
  subst hrb
  have Hcall := Lib.hid hcall
  have Hch : Hid (∀ (a b : Nat) (w : World), a + b = s.size → b = Lib.countByte s.data.toList 98 → Gives Try.prog 15 #[.int .i64 a, .int .i64 b] w (.tuple #[.string (chrisOf s), .int .i64 0])) := by
    intro a b w hab hb
    have := chris_good a b w (by omega) (by omega)
    rw [hab, hb] at this
    rw [hb]
    exact this
  generalize chrisOf s = C at *
  clear hv hn hsame hcall hr
  generalize Lib.countByte s.data.toList 97 = a at *
  generalize hbb : Lib.countByte s.data.toList 98 = b at *
  have Hbb := Lib.hid hbb
  have Heq := Lib.hid heq
  have hA : a ≤ s.size := by omega
  have hB : b ≤ s.size := by omega
  have hne2 : ((a : Int) + b == s.size) = true := by rw [beq_iff_eq]; omega
  have hne3 : ((a : Int) + b != s.size) = false := by rw [bne_eq_false_iff_eq]; omega
  clear hbb heq
  go_enter Try.func27, Try.ntmps27
  go_wp2_with fail
  refine (check_any s _ 0 Hv.out.symm).mono ?_
  rintro e w1 ⟨rfl, hb1⟩
  go_wp2_with fail
  refine (Hca.out _).mono ?_
  rintro e w2 ⟨rfl, rfl⟩
  go_wp2_with fail
  refine (Hcb.out _).mono ?_
  rintro e w3 ⟨rfl, rfl⟩
  have Hb1 := Lib.hid hb1
  clear hb1
  go_wp2_with fail
  refine (Hch.out a b _ Heq.out rfl).mono ?_
  rintro e w4 ⟨rfl, hb3⟩
  have Hb3 := Lib.hid (Hb1.out.trans (hb3.mono Hb1.out.size))
  clear hb3 Hb1
  go_wp2_with fail
  refine (Hcall.out _).mono ?_
  rintro e w5 ⟨rfl, hb4⟩
  go_wp2
  go_ret2
  exact ⟨rfl, Hb3.out.trans (hb4.mono Hb3.out.size)⟩

set_option maxRecDepth 100000 in
set_option maxHeartbeats 4000000 in
theorem lawConjugates (w : World) (a : Option Addr) (l : List UInt8) (c : Nat) (few : UInt8) (hr : ReadsBytes w a l) (hl : l.length ≤ maxLen) :
    Gives Try.prog 9 #[.agg #[.slice a l.length c, .int .u8 few.toNat]] w (.bool true) := by
  unfold Gives
  have Hr := Lib.hid hr
  have Hl := Lib.hid hl
  clear hr hl
  generalize hn : l.length = n at *
  have Hn := Lib.hid hn
  clear hn
  go_enter Try.func9, Try.ntmps9
  go_wp2_with fail
  refine (known_any _).mono ?_
  rintro e w1 ⟨rfl, hb1⟩
  have k0 : w1.cell? ⟨w.heap.size, 0, none⟩ = some (.slice a n c) := by rw [hb1.cell (p := ⟨w.heap.size, 0, none⟩) (by simp), cell_of_row _ _ _ _ _ _ (heap_alloc_new w _)]; rfl
  have k1 : w1.cell? ⟨w.heap.size, 1, none⟩ = some (.int .u8 few.toNat) := by rw [hb1.cell (p := ⟨w.heap.size, 1, none⟩) (by simp), cell_of_row _ _ _ _ _ _ (heap_alloc_new w _)]; rfl
  have Hb1 := Lib.hid (below_box w _ hb1)
  clear hb1
  go_wp2_with fail
  have hmk := make_any a l c few w1 (Hr.out.below Hb1.out) (by rw [Hn.out]; exact Hl.out)
  rw [Hn.out] at hmk
  refine hmk.mono ?_
  rintro e w2 ⟨rfl, hb2⟩
  have Hb2 := Lib.hid (Hb1.out.trans (hb2.mono Hb1.out.size))
  have Hchk := Lib.hid (chk_mk l few)
  have Hmem := Lib.hid (show ∀ b ∈ lb (bs (mk l few)), 97 ≤ b.toNat by rw [lb_bs]; exact fun b hb => (mk_mem l few b hb).1)
  clear hb2 Hb1 k0 k1 hmk Hr Hl Hn
  generalize bs (mk l few) = s at *
  obtain ⟨h0, h60⟩ := chk_zero s Hchk.out
  by_cases hab : AB s
  · obtain ⟨r, hr⟩ : ∃ r : Bool, r = true ↔ IsConj s := ⟨@decide (IsConj s) (Classical.propDecidable _), @decide_eq_true_iff _ (Classical.propDecidable _)⟩
    have Hr := Lib.hid hr
    have Hab := Lib.hid hab
    clear hr hab
    go_wp2_with fail
    refine (conjugate_yes s _ Hchk.out Hab.out r Hr.out).mono ?_
    rintro e w3 ⟨rfl, hb3⟩
    have Hb3 := Lib.hid (Hb2.out.trans (hb3.mono Hb2.out.size))
    clear hb3 Hb2
    go_wp2_with fail
    refine (lcounts_any s _ Hchk.out).mono ?_
    rintro e w4 ⟨v, rfl, hcnt⟩
    have Hb4 := Lib.hid (Hb3.out.trans (hcnt.2.mono Hb3.out.size))
    have hown := hcnt.1
    obtain ⟨a4, c4, rfl⟩ := own_form hown
    have hm2 : (cnt (lb s)).length ≤ 2 := (cnt_two s Hmem.out).2 Hab.out
    have hm1 : 1 ≤ (cnt (lb s)).length := by
      rcases Nat.eq_zero_or_pos (cnt (lb s)).length with h | h
      · have h2 := cnt_sum (lb s)
        rw [List.eq_nil_of_length_eq_zero h, lb_length] at h2
        simp at h2; omega
      · exact h
    have hA : (cnt (lb s)).getD 0 0 = ((lb s).count 97 : Int) := by rw [cnt_getD, num_count _ Hmem.out 0 (by omega)]; rfl
    have hB : (cnt (lb s)).getD 1 0 = ((lb s).count 98 : Int) := by rw [cnt_getD, num_count _ Hmem.out 1 (by omega)]; rfl
    have hAB := (ab_count s).2 Hab.out
    have Hch : Hid (∀ (x y : Int) (w : World), x = ((lb s).count 97 : Int) → y = ((lb s).count 98 : Int) → Gives Try.prog 16 #[.int .i64 x, .int .i64 y] w (.string (chrisOf s))) := by
      rintro x y w rfl rfl
      have := lchris_any ((lb s).count 97) ((lb s).count 98) w (by omega) (by omega)
      rw [hAB] at this
      exact this
    have hCs := chrisOf_size s
    have hq : ((rot s (leastOf s)).toList == (rot (chrisOf s) (leastOf (chrisOf s))).toList) = r := by
      have h1 := least_same s (chrisOf s) hCs h0
      rw [toList_lb, toList_lb]
      cases r with
      | true =>
        rw [beq_iff_eq, h1.2 (Hr.out.1 rfl)]
      | false =>
        rw [beq_eq_false_iff_ne]
        intro e
        exact absurd (Hr.out.2 (h1.1 (lb_inj e))) (by decide)
    have HL1 := Lib.hid (fun w => lleast_any (chrisOf s) w (by omega) (by omega))
    have HL2 := Lib.hid (fun w => lleast_any s w h0 h60)
    have Hbal := Lib.hid (balanced_conj Hab.out h0)
    obtain ⟨g4, rfl, hg1, hg2, hg3, hcells, hfz⟩ := OwnInts.open hown (by omega)
    have c0 := hcells 0 (by omega)
    have e0 : (cnt (lb s))[0] = (cnt (lb s)).getD 0 0 := by rw [List.getD_eq_getElem?_getD, List.getElem?_eq_getElem (by omega)]; rfl
    rw [e0, hA] at c0
    have hr2 : (r == r) = true := by simp
    by_cases hm : (cnt (lb s)).length = 2
    · have c1 := hcells 1 (by omega)
      have e1 : (cnt (lb s))[1] = (cnt (lb s)).getD 1 0 := by rw [List.getD_eq_getElem?_getD, List.getElem?_eq_getElem (by omega)]; rfl
      rw [e1, hB] at c1
      clear hcells e0 e1 hA hB hown hcnt Hb3 hfz
      rw [hm] at hm1 hm2 hg3 ⊢
      clear hm
      generalize (lb s).count 97 = A at *
      generalize (lb s).count 98 = B at *
      generalize rot (chrisOf s) (leastOf (chrisOf s)) = W1 at *
      generalize rot s (leastOf s) = W2 at *
      have HAB := Lib.hid hAB
      clear hAB hCs
      go_wp2_with fail
      refine (Hch.out _ _ _ rfl rfl).mono ?_
      rintro e w5 ⟨rfl, hb5⟩
      have Hb5 := Lib.hid (Hb4.out.trans (hb5.mono Hb4.out.size))
      clear hb5 Hb4 c0 c1
      go_wp2_with fail
      refine (HL1.out _).mono ?_
      rintro e w6 ⟨rfl, hb6⟩
      have Hb6 := Lib.hid (Hb5.out.trans (hb6.mono Hb5.out.size))
      clear hb6 Hb5
      go_wp2_with fail
      refine (HL2.out _).mono ?_
      rintro e w7 ⟨rfl, hb7⟩
      have Hb7 := Lib.hid (Hb6.out.trans (hb7.mono Hb6.out.size))
      clear hb7 Hb6
      go_wp2_with fail
      refine (balanced_good s _ Hchk.out).mono ?_
      rintro e w8 ⟨h8, hb8⟩
      have Hb8 := Lib.hid (Hb7.out.trans (hb8.mono Hb7.out.size))
      clear hb8 Hb7
      have h9 : ∃ x y z q, e = .returned (.tuple #[.bool r, .agg #[.int .i64 x, .int .i64 y, .int .i64 z, .string q], .int .i64 0]) := by
        rcases h8 with ⟨n, i, j, c, hf, rfl⟩ | ⟨hok, rfl⟩
        · have : r = false := by
            cases r with
            | false => rfl
            | true => exact absurd (Hbal.out.2 (Hr.out.1 rfl)) (found_not_ok hf)
          rw [this]; exact ⟨_, _, _, _, rfl⟩
        · have : r = true := Hr.out.2 (Hbal.out.1 hok)
          rw [this]; exact ⟨_, _, _, _, rfl⟩
      obtain ⟨x, y, z, q, rfl⟩ := h9
      clear h8
      go_wp2
      go_ret
      exact ⟨rfl, Hb8.out.alloc Hb8.out.size _⟩
    · have hB0 : (lb s).count 98 = 0 := by
        rw [List.getD_eq_getElem?_getD, List.getElem?_eq_none (by omega)] at hB
        simp only [Option.getD_none] at hB
        omega
      have hm' : (cnt (lb s)).length = 1 := by omega
      clear hcells e0 hA hB hown hcnt Hb3 hfz hm
      rw [hm'] at hm1 hm2 hg3 ⊢
      rw [hB0] at Hch hAB
      clear hm' hB0
      generalize (lb s).count 97 = A at *
      generalize rot (chrisOf s) (leastOf (chrisOf s)) = W1 at *
      generalize rot s (leastOf s) = W2 at *
      have HAB := Lib.hid hAB
      clear hAB hCs
      go_wp2_with fail
      refine (Hch.out _ _ _ rfl rfl).mono ?_
      rintro e w5 ⟨rfl, hb5⟩
      have Hb5 := Lib.hid (Hb4.out.trans (hb5.mono Hb4.out.size))
      clear hb5 Hb4 c0
      go_wp2_with fail
      refine (HL1.out _).mono ?_
      rintro e w6 ⟨rfl, hb6⟩
      have Hb6 := Lib.hid (Hb5.out.trans (hb6.mono Hb5.out.size))
      clear hb6 Hb5
      go_wp2_with fail
      refine (HL2.out _).mono ?_
      rintro e w7 ⟨rfl, hb7⟩
      have Hb7 := Lib.hid (Hb6.out.trans (hb7.mono Hb6.out.size))
      clear hb7 Hb6
      go_wp2_with fail
      refine (balanced_good s _ Hchk.out).mono ?_
      rintro e w8 ⟨h8, hb8⟩
      have Hb8 := Lib.hid (Hb7.out.trans (hb8.mono Hb7.out.size))
      clear hb8 Hb7
      have h9 : ∃ x y z q, e = .returned (.tuple #[.bool r, .agg #[.int .i64 x, .int .i64 y, .int .i64 z, .string q], .int .i64 0]) := by
        rcases h8 with ⟨n, i, j, c, hf, rfl⟩ | ⟨hok, rfl⟩
        · have : r = false := by
            cases r with
            | false => rfl
            | true => exact absurd (Hbal.out.2 (Hr.out.1 rfl)) (found_not_ok hf)
          rw [this]; exact ⟨_, _, _, _, rfl⟩
        · have : r = true := Hr.out.2 (Hbal.out.1 hok)
          rw [this]; exact ⟨_, _, _, _, rfl⟩
      obtain ⟨x, y, z, q, rfl⟩ := h9
      clear h8
      go_wp2
      go_ret
      exact ⟨rfl, Hb8.out.alloc Hb8.out.size _⟩
  · have Hab := Lib.hid hab
    clear hab
    go_wp2_with fail
    refine (conjugate_no s _ Hchk.out Hab.out).mono ?_
    rintro e w3 ⟨rfl, hb3⟩
    have Hb3 := Lib.hid (Hb2.out.trans (hb3.mono Hb2.out.size))
    clear hb3 Hb2
    go_wp2_with fail
    refine (lcounts_any s _ Hchk.out).mono ?_
    rintro e w4 ⟨v, rfl, hcnt⟩
    have Hb4 := Lib.hid (Hb3.out.trans (hcnt.2.mono Hb3.out.size))
    have hown := hcnt.1
    obtain ⟨a4, c4, rfl⟩ := own_form hown
    have hlen : ¬ (cnt (lb s)).length ≤ 2 := fun h => Hab.out ((cnt_two s Hmem.out).1 h)
    have hle := cnt_length (lb s) (chk_letters s Hchk.out)
    clear hcnt Hb3 hown
    generalize (cnt (lb s)).length = m at *
    have hm : (2 : Int) < m := by omega
    go_wp2
    go_ret
    exact ⟨rfl, Hb4.out⟩

end Go.Proofs.Ytgijighdalaemaa
