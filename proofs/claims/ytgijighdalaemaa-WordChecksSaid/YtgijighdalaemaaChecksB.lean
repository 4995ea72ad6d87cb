/- The law on checks: what the law's function returns. -/
import Derived.Test.YtgijighdalaemaaChecksA
import Derived.Test.YtgijighdalaemaaWalkLaws
namespace Go.Proofs.Ytgijighdalaemaa
open Go.RowKit

theorem tmod_emod (k n : Int) : k.tmod n % n = k % n := by
  have h := Int.tmod_add_mul_tdiv k n
  have : k.tmod n = k - n * k.tdiv n := by omega
  rw [this, Int.sub_emod, Int.mul_emod_right]
  simp

theorem back_succ (s : ByteArray) (k : Nat) (h : k < s.size) : s.extract k (k + 1) ++ bs ((lb s).take k).reverse = bs ((lb s).take (k + 1)).reverse := by
  have e : s.extract k (k + 1) = bs [s[k]] := by
    apply lb_inj
    rw [lb_bs]
    unfold lb
    rw [ByteArray.data_extract, Array.toList_extract]
    have hk : k < s.data.toList.length := by rw [Array.length_toList]; exact h
    simp only [List.extract, Nat.add_sub_cancel_left]
    rw [List.drop_eq_getElem_cons hk]
    simp
    rfl
  rw [e, bs_append, lb_take_succ s k h]
  simp

set_option maxRecDepth 100000 in
set_option maxHeartbeats 4000000 in
theorem lawChecks_long (s : ByteArray) (k : Int) (w : World) (h : 64 < s.size) : Gives Try.prog 10 #[.string s, .int .i64 k] w (.bool true) := by
  unfold Gives
  have h' : (64 : Int) < s.size := by omega
  go_enter Try.func10, Try.ntmps10
  go_wp2_with fail
  refine (known_any _).mono ?_
  rintro e w1 ⟨rfl, hb1⟩
  go_wp2_with fail
  refine (known_any _).mono ?_
  rintro e w2 ⟨rfl, hb2⟩
  go_wp2
  go_ret
  exact ⟨rfl, hb1.trans (hb2.mono hb1.size)⟩

set_option maxRecDepth 100000 in
set_option maxHeartbeats 4000000 in
theorem lawChecks_good (s : ByteArray) (k : Int) (w : World) (hv : chk (lb s) = 0) : Gives Try.prog 10 #[.string s, .int .i64 k] w (.bool true) := by
  unfold Gives
  obtain ⟨h0, h60⟩ := chk_zero s hv
  have h' : ¬ (64 : Int) < s.size := by omega
  have Hchk := Lib.hid hv
  have Hrot := Lib.hid (fun w => rot_good s k w hv)
  have Hlrot : Hid (∀ w, Gives Try.prog 24 #[.string s, .int .i64 (k.tmod s.size)] w (.string (rot s (k % s.size).toNat))) := fun w => by
    have := lrotate_any s (k.tmod s.size) w h0 (by omega)
    rw [tmod_emod] at this
    exact this
  clear hv
  generalize rot s (k % (s.size : Int)).toNat = R at *
  have hR : (R.toList == R.toList) = true := by simp
  go_enter Try.func10, Try.ntmps10
  go_wp2_with fail
  refine (known_any _).mono ?_
  rintro e w1 ⟨rfl, hb1⟩
  have Hb1 := Lib.hid hb1
  clear hb1
  go_wp2_with fail
  refine (lcheck_any s _ 0 Hchk.out.symm).mono ?_
  rintro e w2 ⟨rfl, hb2⟩
  have Hb2 := Lib.hid (Hb1.out.trans (hb2.mono Hb1.out.size))
  clear hb2 Hb1
  go_wp2_with fail
  refine (counts_good s _ Hchk.out).mono ?_
  rintro e w3 ⟨v3, rfl, hcnt⟩
  have Hb3 := Lib.hid (Hb2.out.trans (hcnt.2.mono Hb2.out.size))
  have hown := hcnt.1
  obtain ⟨a3, c3, rfl⟩ := own_form hown
  have Hown3 := Lib.hid hown
  have hlen := cnt_length (lb s) (chk_letters s Hchk.out)
  clear hcnt hown Hb2
  go_wp2_with fail
  refine (Hrot.out _).mono ?_
  rintro e w4 ⟨rfl, hb4⟩
  have Hb4 := Lib.hid (Hb3.out.trans (hb4.mono Hb3.out.size))
  have Hown4 := Lib.hid (own_below Hown3.out hb4 (Nat.le_refl _))
  clear hb4 Hb3 Hown3
  go_wp2_with fail
  refine (reverse_good s _ Hchk.out).mono ?_
  rintro e w5 ⟨rfl, hb5⟩
  have Hb5 := Lib.hid (Hb4.out.trans (hb5.mono Hb4.out.size))
  have Hown5 := Lib.hid (own_below Hown4.out hb5 (Nat.le_refl _))
  clear hb5 Hb4 Hown4
  go_wp2_with fail
  refine (check_any s _ 0 Hchk.out.symm).mono ?_
  rintro e w6 ⟨rfl, hb6⟩
  have Hb6 := Lib.hid (Hb5.out.trans (hb6.mono Hb5.out.size))
  have Hown6 := Lib.hid (own_below Hown5.out hb6 (Nat.le_refl _))
  clear hb6 Hb5 Hown5
  have Hbk : Hid ((lb s).take s.size = lb s) := List.take_of_length_le (by rw [lb_length]; exact Nat.le_refl _)
  have Hbs := Lib.hid (fun k h => back_succ s k h)
  have Hbl : Hid (∀ k, k ≤ s.size → (bs ((lb s).take k).reverse).size = k) := fun k hk => by rw [bs_size]; simp; rw [lb_length]; omega
  generalize hF : (fun k => bs ((lb s).take k).reverse) = F at *
  have HF := Lib.hid hF
  have hFk : ∀ k, bs ((lb s).take k).reverse = F k := fun k => by rw [← hF]
  have Hbs2 : Hid (∀ k, k < s.size → s.extract k (k + 1) ++ F k = F (k + 1)) := fun k hk => by rw [← hFk, ← hFk]; exact Hbs.out k hk
  have Hbl2 : Hid (∀ k, k ≤ s.size → (F k).size = k) := fun k hk => by rw [← hFk]; exact Hbl.out k hk
  have HF0 : Hid (F 0 = ⟨#[]⟩) := by show F 0 = _; rw [← hFk]; rfl
  have HFn : Hid (bs (lb s).reverse = F s.size) := by show _ = _; rw [← hFk, Hbk.out]
  clear hF hFk Hbk Hbs Hbl HF
  rw [HFn.out]
  go_wp2_with fail
  go_loop [12, 13] (fun b i => ∃ j : Nat, j ≤ s.size ∧ i = .int .i64 j ∧ b = .string (F j)) (fun _ i => s.size - (intOf i).toNat)
  case atStart => exact ⟨0, Nat.zero_le _, rfl, by rw [HF0.out]⟩
  case round =>
    obtain ⟨j, hj, rfl, rfl⟩ := hrel
    have hfs : (F j).size ≤ 60 := by rw [Hbl2.out j hj]; omega
    by_cases hlt : j < s.size
    · have Hs := Lib.hid (Hbs2.out j hlt)
      go_wp2
      go_round
      case rel => exact ⟨j + 1, by omega, by go_num, by rw [← Hs.out]⟩
      case measure => simp [intOf]; omega
    · obtain rfl : j = s.size := by omega
      have hFF : ((F s.size).toList == (F s.size).toList) = true := by simp
      go_wp2_with fail
      refine (lcounts_any s _ Hchk.out).mono ?_
      rintro e w7 ⟨v7, rfl, hcnt⟩
      have Hb7 := Lib.hid (Hb6.out.trans (hcnt.2.mono Hb6.out.size))
      have Hown7 := Lib.hid (own_below Hown6.out hcnt.2 (Nat.le_refl _))
      have hown := hcnt.1
      obtain ⟨a7, c7, rfl⟩ := own_form hown
      have Hown8 := Lib.hid hown
      clear hcnt hown Hb6 Hown6
      go_wp2_with fail
      refine (equalRows_same w7 a3 a7 c3 c7 (cnt (lb s)) (reads_own Hown7.out) (reads_own Hown8.out) (by omega)).mono ?_
      rintro e w8 ⟨rfl, hb8⟩
      have Hb8 := Lib.hid (Hb7.out.trans (hb8.mono Hb7.out.size))
      clear hb8 Hb7
      go_wp2_with fail
      refine (Hlrot.out _).mono ?_
      rintro e w9 ⟨rfl, hb9⟩
      have Hb9 := Lib.hid (Hb8.out.trans (hb9.mono Hb8.out.size))
      clear hb9 Hb8
      go_wp2
      go_ret
      exact ⟨rfl, Hb9.out⟩

set_option maxRecDepth 100000 in
set_option maxHeartbeats 4000000 in
theorem lawChecks_bad (s : ByteArray) (k : Int) (w : World) (h : s.size ≤ 64) (v : Int) (hv : v = chk (lb s)) (hne : v ≠ 0) : Gives Try.prog 10 #[.string s, .int .i64 k] w (.bool true) := by
  unfold Gives
  have h' : ¬ (64 : Int) < s.size := by omega
  have Hv := Lib.hid hv
  have Hne := Lib.hid hne
  have hb0 : (v == 0) = false := by simpa using hne
  have hb0' : (v != 0) = true := by simpa using hne
  have hb1 : (v == v) = true := by simp
  have hb1' : (v != v) = false := by simp
  clear hv hne
  go_enter Try.func10, Try.ntmps10
  go_wp2_with fail
  refine (known_any _).mono ?_
  rintro e w1 ⟨rfl, hb⟩
  have Hb1 := Lib.hid hb
  clear hb
  go_wp2_with fail
  refine (lcheck_any s _ v Hv.out).mono ?_
  rintro e w2 ⟨rfl, hb⟩
  have Hb2 := Lib.hid (Hb1.out.trans (hb.mono Hb1.out.size))
  clear hb Hb1
  go_wp2_with fail
  refine (counts_bad s _ v Hv.out Hne.out).mono ?_
  rintro e w3 ⟨rfl, hb⟩
  have Hb3 := Lib.hid (Hb2.out.trans (hb.mono Hb2.out.size))
  clear hb Hb2
  go_wp2_with fail
  refine (rot_bad s k _ v Hv.out Hne.out).mono ?_
  rintro e w4 ⟨rfl, hb⟩
  have Hb4 := Lib.hid (Hb3.out.trans (hb.mono Hb3.out.size))
  clear hb Hb3
  go_wp2_with fail
  refine (reverse_bad s _ v Hv.out Hne.out).mono ?_
  rintro e w5 ⟨rfl, hb⟩
  have Hb5 := Lib.hid (Hb4.out.trans (hb.mono Hb4.out.size))
  clear hb Hb4
  go_wp2_with fail
  refine (check_any s _ v Hv.out).mono ?_
  rintro e w6 ⟨rfl, hb⟩
  have Hb6 := Lib.hid (Hb5.out.trans (hb.mono Hb5.out.size))
  clear hb Hb5
  go_wp2_with fail
  refine (least_bad s _ v Hv.out Hne.out).mono ?_
  rintro e w7 ⟨rfl, hb⟩
  have Hb7 := Lib.hid (Hb6.out.trans (hb.mono Hb6.out.size))
  clear hb Hb6
  go_wp2_with fail
  refine (same_bad1 s s _ v Hv.out Hne.out).mono ?_
  rintro e w8 ⟨rfl, hb⟩
  have Hb8 := Lib.hid (Hb7.out.trans (hb.mono Hb7.out.size))
  clear hb Hb7
  go_wp2_with fail
  refine (prim_bad s _ v Hv.out Hne.out).mono ?_
  rintro e w9 ⟨rfl, hb⟩
  have Hb9 := Lib.hid (Hb8.out.trans (hb.mono Hb8.out.size))
  clear hb Hb8
  go_wp2_with fail
  refine (balanced_bad s _ v Hv.out Hne.out).mono ?_
  rintro e w10 ⟨rfl, hb⟩
  have Hb10 := Lib.hid (Hb9.out.trans (hb.mono Hb9.out.size))
  clear hb Hb9
  go_wp2_with fail
  refine (conjugate_bad s _ v Hv.out Hne.out).mono ?_
  rintro e w11 ⟨rfl, hb⟩
  have hb2 := below_box w10 _ hb
  have Hb11 := Lib.hid (Hb10.out.trans (hb2.mono Hb10.out.size))
  have z0 := hb.block w10.heap.size (by simp)
  rw [heap_alloc_new] at z0
  have y0 : w11.cell? ⟨w10.heap.size, 0, none⟩ = some (.int .i64 0) := by rw [cell_of_row _ _ _ _ _ _ z0]; rfl
  have y1 : w11.cell? ⟨w10.heap.size, 1, none⟩ = some (.int .i64 0) := by rw [cell_of_row _ _ _ _ _ _ z0]; rfl
  have y2 : w11.cell? ⟨w10.heap.size, 2, none⟩ = some (.int .i64 0) := by rw [cell_of_row _ _ _ _ _ _ z0]; rfl
  have y3 : w11.cell? ⟨w10.heap.size, 3, none⟩ = some (.string ⟨#[]⟩) := by rw [cell_of_row _ _ _ _ _ _ z0]; rfl
  clear z0 hb hb2 Hb10
  go_wp2
  go_ret
  exact ⟨rfl, Hb11.out⟩

theorem lawChecks (s : ByteArray) (k : Int) (w : World) : Gives Try.prog 10 #[.string s, .int .i64 k] w (.bool true) := by
  by_cases h : 64 < s.size
  · exact lawChecks_long s k w h
  · by_cases hv : chk (lb s) = 0
    · exact lawChecks_good s k w hv
    · exact lawChecks_bad s k w (by omega) _ rfl hv

end Go.Proofs.Ytgijighdalaemaa
