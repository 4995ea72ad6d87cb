/- The law on words: what the law's function returns. -/
import Derived.Test.YtgijighdalaemaaNeckD
import Derived.Test.YtgijighdalaemaaWordT
namespace Go.Proofs.Ytgijighdalaemaa
open Go.RowKit

/-- What the law needs of a described word and of two numbers. -/
structure LawFacts (s : ByteArray) (x y : Int) (U V T R : ByteArray) (i1 i2 : Int) (Q : Nat) (G : Nat → ByteArray) : Prop where
  hU : ∀ w, Gives Try.prog 25 #[.string s, .int .i64 x] w (.tuple #[.string U, .int .i64 0])
  hV : ∀ w, Gives Try.prog 25 #[.string U, .int .i64 y] w (.tuple #[.string V, .int .i64 0])
  hX : ∀ w, Gives Try.prog 25 #[.string s, .int .i64 (x + y)] w (.tuple #[.string V, .int .i64 0])
  hS : ∀ w, Gives Try.prog 20 #[.string s] w (.tuple #[.string T, .int .i64 i1, .int .i64 0])
  hT : ∀ w, Gives Try.prog 20 #[.string U] w (.tuple #[.string T, .int .i64 i2, .int .i64 0])
  hP : ∀ w, Gives Try.prog 22 #[.string s] w (.tuple #[.string R, .int .i64 Q, .int .i64 0])
  lT : lb T = leastL s
  q1 : 1 ≤ Q
  q14 : Q ≤ 14
  g0 : G 0 = ⟨#[]⟩
  gs : ∀ j, j < Q → G j ++ R = G (j + 1)
  gQ : G Q = s
  gsz : ∀ j, (G j).size ≤ 14
  r14 : R.size ≤ 14

theorem law_facts (s : ByteArray) (x y : Int) (hv : chk (lb s) = 0) (h14 : s.size ≤ 14) : ∃ U V T R i1 i2 Q G, LawFacts s x y U V T R i1 i2 Q G := by
  obtain ⟨h0, h1⟩ := chk_zero s hv
  have e1 := Int.emod_nonneg x (show (s.size : Int) ≠ 0 by omega)
  have e2 := Int.emod_lt_of_pos x (show (0 : Int) < s.size by omega)
  have hu : (x % (s.size : Int)).toNat ≤ s.size := by omega
  have hsz := rot_size s _ hu
  have hcu := chk_rot s _ hu hv
  obtain ⟨N, r1, r2, r3, r4, r5⟩ := root_first s h0
  have hQN : s.size / N * N = s.size := Nat.div_mul_cancel (Nat.dvd_of_mod_eq_zero r4)
  refine ⟨rot s (x % (s.size : Int)).toNat, rot s ((x + y) % (s.size : Int)).toNat, rot s (leastOf s), s.extract 0 N, (leastOf s : Nat), (leastOf (rot s (x % (s.size : Int)).toNat) : Nat), s.size / N, fun j => s.extract 0 (j * N), ?_⟩
  refine ⟨fun w => rot_good s x w hv, fun w => ?_, fun w => rot_good s (x + y) w hv, fun w => least_good s w hv, fun w => ?_, fun w => ?_, ?_, ?_, ?_, ?_, fun j hj => ?_, ?_, fun j => ?_, ?_⟩
  · have := rot_good (rot s (x % (s.size : Int)).toNat) y w hcu
    rw [hsz, rot_sum s x y h0] at this
    exact this
  · have := least_good (rot s (x % (s.size : Int)).toNat) w hcu
    rw [least_rot s _ hu h0] at this
    exact this
  · exact prim_root s w hv N r1 r2 r3 r4 r5
  · unfold leastL
    exact lb_rot s _ (leastAt_le s s.size)
  · exact Nat.div_pos r2 r1
  · exact Nat.le_trans (Nat.div_le_self _ _) h14
  · simp; rfl
  · refine root_more s N j r2 r3 ?_
    rw [← hQN]
    exact Nat.mul_le_mul_right N hj
  · show s.extract 0 (s.size / N * N) = s
    rw [hQN]; simp
  · rw [ByteArray.size_extract]; omega
  · rw [ByteArray.size_extract]; omega

theorem reads_own {w : World} {B n c : Nat} {a : Option Addr} {l : List Int} (h : OwnInts w B a n c l) : ReadsInts w a l := by
  by_cases hn : 0 < n
  · obtain ⟨g, rfl, h1, h2, h3, h4, h5⟩ := h.open hn
    refine .inr ⟨g, 0, rfl, h2, fun i hi => ?_⟩
    rw [Nat.zero_add, h4 i hi, List.getD_eq_getElem?_getD, List.getElem?_eq_getElem hi]; rfl
  · left
    have := h.len
    exact List.eq_nil_of_length_eq_zero (by omega)

theorem count_take_succ (L : List (List UInt8)) (x : List UInt8) (k : Nat) (hk : k < L.length) : (L.take (k + 1)).count x = (L.take k).count x + if L.getD k [] = x then 1 else 0 := by
  have e : L.getD k [] = L[k] := by rw [List.getD_eq_getElem?_getD, List.getElem?_eq_getElem hk]; rfl
  rw [List.take_succ_eq_append_getElem hk, List.count_append, e, List.count_singleton]
  simp only [beq_iff_eq]

set_option maxRecDepth 100000 in
set_option maxHeartbeats 4000000 in
theorem lawLaws (w : World) (a : Option Addr) (l : List UInt8) (c : Nat) (few : UInt8) (x y : Int) (hx1 : -128 ≤ x) (hx2 : x ≤ 127) (hy1 : -128 ≤ y) (hy2 : y ≤ 127) (hr : ReadsBytes w a l) (hl : l.length ≤ maxLen) :
    Gives Try.prog 8 #[.agg #[.slice a l.length c, .int .u8 few.toNat], .int .i8 x, .int .i8 y] w (.bool true) := by
  unfold Gives
  have Hr := Lib.hid hr
  have Hl := Lib.hid hl
  clear hr hl
  generalize hn : l.length = n at *
  have Hn := Lib.hid hn
  clear hn
  go_enter Try.func8, Try.ntmps8
  go_wp2_with fail
  refine (known_any _).mono ?_
  rintro e w1 ⟨rfl, hb1⟩
  have k0 : w1.cell? ⟨w.heap.size, 0, none⟩ = some (.slice a n c) := by rw [hb1.cell (p := ⟨w.heap.size, 0, none⟩) (by simp), cell_of_row _ _ _ _ _ _ (heap_alloc_new w _)]; rfl
  have k1 : w1.cell? ⟨w.heap.size, 1, none⟩ = some (.int .u8 few.toNat) := by rw [hb1.cell (p := ⟨w.heap.size, 1, none⟩) (by simp), cell_of_row _ _ _ _ _ _ (heap_alloc_new w _)]; rfl
  have Hb1 := Lib.hid (below_box w _ hb1)
  clear hb1
  go_wp2_with fail
  have hmk := make_any a l c few w1 (Hr.out.below Hb1.out) (by rw [Hn.out]; exact Hl.out)
  rw [Hn.out] at hmk
  refine hmk.mono ?_
  rintro e w2 ⟨rfl, hb2⟩
  have Hb2 := Lib.hid (Hb1.out.trans (hb2.mono Hb1.out.size))
  have Hchk := Lib.hid (chk_mk l few)
  have Hmem := Lib.hid (show ∀ b ∈ lb (bs (mk l few)), 97 ≤ b.toNat ∧ b.toNat ≤ 100 by rw [lb_bs]; exact mk_mem l few)
  have h14 : (bs (mk l few)).size ≤ 14 := by rw [bs_size]; exact (mk_length l few).2
  clear hb2 Hb1 k0 k1 hmk Hr Hl Hn
  generalize bs (mk l few) = s at *
  obtain ⟨h0, h60⟩ := chk_zero s Hchk.out
  obtain ⟨U, V, T, R, i1, i2, Q, G, F⟩ := law_facts s x y Hchk.out h14
  have hq1 := F.q1
  have hq14 := F.q14
  have hR := F.r14
  have HF := Lib.hid F
  clear F
  go_wp2_with fail
  refine (HF.out.hU _).mono ?_
  rintro e w3 ⟨rfl, hb3⟩
  have Hb3 := Lib.hid (Hb2.out.trans (hb3.mono Hb2.out.size))
  clear hb3 Hb2
  go_wp2_with fail
  refine (HF.out.hV _).mono ?_
  rintro e w4 ⟨rfl, hb4⟩
  have Hb4 := Lib.hid (Hb3.out.trans (hb4.mono Hb3.out.size))
  clear hb4 Hb3
  go_wp2_with fail
  refine (HF.out.hX _).mono ?_
  rintro e w5 ⟨rfl, hb5⟩
  have Hb5 := Lib.hid (Hb4.out.trans (hb5.mono Hb4.out.size))
  clear hb5 Hb4
  go_wp2_with fail
  refine (HF.out.hS _).mono ?_
  rintro e w6 ⟨rfl, hb6⟩
  have Hb6 := Lib.hid (Hb5.out.trans (hb6.mono Hb5.out.size))
  clear hb6 Hb5
  go_wp2_with fail
  refine (HF.out.hT _).mono ?_
  rintro e w7 ⟨rfl, hb7⟩
  have Hb7 := Lib.hid (Hb6.out.trans (hb7.mono Hb6.out.size))
  clear hb7 Hb6
  go_wp2_with fail
  refine (HF.out.hP _).mono ?_
  rintro e w8 ⟨rfl, hb8⟩
  have Hb8 := Lib.hid (Hb7.out.trans (hb8.mono Hb7.out.size))
  clear hb8 Hb7
  have hv : (V.toList == V.toList) = true := by simp
  have ht : (T.toList == T.toList) = true := by simp
  have hss : (s.toList == s.toList) = true := by simp
  go_wp2_with fail
  go_loop [23, 24] (fun s i => ∃ j : Nat, j ≤ Q ∧ i = .int .i64 j ∧ s = .string (G j)) (fun _ i => Q - (intOf i).toNat)
  case atStart => exact ⟨0, Nat.zero_le _, rfl, by rw [HF.out.g0]⟩
  case round =>
    obtain ⟨j, hj, rfl, rfl⟩ := hrel
    have hgz := HF.out.gsz j
    by_cases hlt : j < Q
    · have Hg := Lib.hid (HF.out.gs j hlt)
      go_wp2
      go_round
      case rel => exact ⟨j + 1, by omega, by go_num, by rw [Hg.out]⟩
      case measure => simp [intOf]; omega
    · obtain rfl : j = Q := by omega
      rw [HF.out.gQ]
      clear hgz
      by_cases h7 : 7 < s.size
      · have h7' : (7 : Int) < s.size := by omega
        go_wp2
        go_ret
        exact ⟨rfl, Hb8.out⟩
      · have h7' : ¬ (7 : Int) < s.size := by omega
        go_wp2_with fail
        refine (counts_good s _ Hchk.out).mono ?_
        rintro e w9 ⟨v, rfl, hcnt⟩
        have Hb9 := Lib.hid (Hb8.out.trans (hcnt.2.mono Hb8.out.size))
        have hown := hcnt.1
        obtain ⟨a9, c9, rfl⟩ := own_form hown
        have hpos : ∀ z ∈ cnt (lb s), 0 ≤ z := fun z hz => (cnt_small (lb s) z hz).1
        have hc4 : (cnt (lb s)).length ≤ 4 := cnt_le _ 4 fun b hb => by have := Hmem.out b hb; omega
        have hsum : (cnt (lb s)).sum = ((s.size : Nat) : Int) := by rw [cnt_sum, lb_length]
        have hcs := capSum_sum (cnt (lb s)) hpos (by rw [hsum]; omega)
        have Hng := Lib.hid (neck_good w9 a9 c9 (cnt (lb s)) (reads_own hown) (by omega) hpos (by rw [hcs, hsum]; omega) (by rw [hcs, hsum]; omega))
        have Hseven := Lib.hid (neck_seven (cnt (lb s)) hc4 hpos s.size hsum (by omega) (by omega))
        have Honce := Lib.hid (least_once s h0 fun b hb => by have := Hmem.out b hb; omega)
        have Hlen := Lib.hid (leaves_seven (cnt (lb s)) hc4 hpos s.size hsum (by omega))
        have Hfree := Lib.hid (ext_free s.size s.size (cnt (lb s)) [] 1 ([], false) rfl (by have := Hlen.out; simpa using this))
        have hbl : (brute s.size (cnt (lb s)) []).length ≤ 5000 := by
          have h1 := Hfree.out.2
          have h2 := Hlen.out
          have e : (neckOf (cnt (lb s))).1 = (ext s.size s.size (cnt (lb s)) [] 1 ([], false)).1 := by unfold neckOf; rw [hcs, hsum, Int.toNat_natCast]
          rw [← e, Hseven.out] at h1
          simp at h1
          omega
        clear hown hcnt hpos hsum hcs Hb8 Hlen Hfree
        generalize (cnt (lb s)).length = m at *
        go_wp2_with fail
        refine Calls.mono Hng.out ?_
        rintro e w10 ⟨h10, hb10⟩
        have Hb10 := Lib.hid (Hb9.out.trans (hb10.mono Hb9.out.size))
        rw [Hseven.out] at h10
        rcases h10 with ⟨h, _⟩ | ⟨_, v10, rfl, hown10⟩
        · cases h
        simp only at hown10
        generalize hB : brute s.size (cnt (lb s)) [] = B at *
        have HB := Lib.hid hB
        have Honce2 : Hid (B.count (leastL s) = 1) := Honce.out
        obtain ⟨a10, c10, rfl⟩ := own_form hown10
        have Hown10 := Lib.hid hown10
        generalize hbn : B.length = M at *
        have HM := Lib.hid hbn
        clear hB hbn hown10 hb10 Hng Hseven Honce Hb9
        go_wp2_with fail
        go_loop [29, 30] (fun q i => ∃ k : Nat, k ≤ M ∧ i = .int .i64 k ∧ q = .int .i64 ((B.take k).count (leastL s) : Nat)) (fun _ i => M - (intOf i).toNat)
        case atStart => exact ⟨0, Nat.zero_le _, rfl, rfl⟩
        case round =>
          obtain ⟨k, hk, rfl, rfl⟩ := hrel
          have hct : (B.take k).count (leastL s) ≤ k := Nat.le_trans List.count_le_length (by simp; omega)
          by_cases hlt : k < M
          · obtain ⟨g, rfl, hg1, hg2, hg3, hcells⟩ := strs_cell Hown10.out (by omega)
            have cx := hcells k hlt
            have Hts := Lib.hid (count_take_succ B (leastL s) k (by rw [HM.out]; exact hlt))
            clear hcells
            by_cases he : B.getD k [] = leastL s
            · have hq : ((bs (B.getD k [])).toList == T.toList) = true := by
                rw [toList_lb, toList_lb, lb_bs, HF.out.lT, he]; simp
              rw [if_pos he] at Hts
              clear he
              generalize bs (B.getD k []) = sk at *
              generalize (B.take k).count (leastL s) = q at *
              go_wp2
              go_round
              case rel => exact ⟨k + 1, by omega, by go_num, by rw [Hts.out]; go_num⟩
              case measure => simp [intOf]; omega
            · have hq : ((bs (B.getD k [])).toList == T.toList) = false := by
                rw [toList_lb, toList_lb, lb_bs, HF.out.lT, beq_eq_false_iff_ne]; exact he
              rw [if_neg he] at Hts
              clear he
              generalize bs (B.getD k []) = sk at *
              generalize (B.take k).count (leastL s) = q at *
              go_wp2
              go_round
              case rel => exact ⟨k + 1, by omega, by go_num, by rw [Hts.out]; go_num⟩
              case measure => simp [intOf]; omega
          · obtain rfl : k = M := by omega
            have hq : (B.take k).count (leastL s) = 1 := by rw [← HM.out, List.take_length]; exact Honce2.out
            rw [hq]
            clear hq hct
            go_wp2
            go_ret
            exact ⟨rfl, Hb10.out⟩

end Go.Proofs.Ytgijighdalaemaa
