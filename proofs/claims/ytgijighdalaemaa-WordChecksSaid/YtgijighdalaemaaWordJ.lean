/- The walk of word.Balanced. -/
import Derived.Test.YtgijighdalaemaaWordI
import Derived.Deep.MidRow
namespace Go.Proofs.Ytgijighdalaemaa
open Go.RowKit

/-- Two parts of a word differ too much in a letter. -/
def bad (s : ByteArray) (n i j c : Nat) : Prop :=
  (1 : Int) < (partTo s i (97 + c).toUInt8 n : Int) - partTo s j (97 + c).toUInt8 n ∨ (partTo s i (97 + c).toUInt8 n : Int) - partTo s j (97 + c).toUInt8 n < -1

def okC (s : ByteArray) (n i j k : Nat) : Prop := ∀ c, c < k → ¬ bad s n i j c
def okJ (s : ByteArray) (m n i k : Nat) : Prop := ∀ j, i < j → j < k → okC s n i j m
def okI (s : ByteArray) (m n k : Nat) : Prop := ∀ i, i < k → okJ s m n i s.size
def okN (s : ByteArray) (m k : Nat) : Prop := ∀ n, 1 ≤ n → n < k → okI s m n s.size

/-- The first counterexample, with letters below m. -/
structure Found (s : ByteArray) (m n i j c : Nat) : Prop where
  n1 : 1 ≤ n
  n2 : n < s.size
  ij : i < j
  j2 : j < s.size
  c2 : c < m
  isBad : bad s n i j c
  hc : okC s n i j c
  hj : okJ s m n i j
  hi : okI s m n i
  hn : okN s m n

theorem conv_rune (c : Nat) (h : c ≤ 25) (w : World) : (convert 21 9 (.int .i32 (97 + (c : Int)))).run Try.prog w = .ok (.string (ltr c)) w := by
  have h2 : c = 0 ∨ c = 1 ∨ c = 2 ∨ c = 3 ∨ c = 4 ∨ c = 5 ∨ c = 6 ∨ c = 7 ∨ c = 8 ∨ c = 9 ∨ c = 10 ∨ c = 11 ∨ c = 12 ∨ c = 13 ∨ c = 14 ∨ c = 15 ∨ c = 16 ∨ c = 17 ∨ c = 18 ∨ c = 19 ∨ c = 20 ∨ c = 21 ∨ c = 22 ∨ c = 23 ∨ c = 24 ∨ c = 25 := by omega
  obtain rfl | rfl | rfl | rfl | rfl | rfl | rfl | rfl | rfl | rfl | rfl | rfl | rfl | rfl | rfl | rfl | rfl | rfl | rfl | rfl | rfl | rfl | rfl | rfl | rfl | rfl := h2
  all_goals (show _ = _; kernel_rfl)

/-- The parts of a word, as cells one behind the other. -/
def flat (s : ByteArray) (n i : Nat) : List Value := (List.range i).flatMap fun i => ints (tal s i n)
theorem flat_succ (s : ByteArray) (n i : Nat) : flat s n (i + 1) = flat s n i ++ ints (tal s i n) := by simp [flat, List.range_succ]
theorem flat_length (s : ByteArray) (n i : Nat) : (flat s n i).length = i * 26 := by
  induction i with
  | zero => simp [flat]
  | succ i ih => rw [flat_succ, List.length_append, ih, ints_length, tal_length]; omega
theorem flat_get (s : ByteArray) (n k i c : Nat) (hi : i < k) (hc : c < 26) : (flat s n k)[i * 26 + c]? = some (.int .i64 (partTo s i (97 + c).toUInt8 n : Nat)) := by
  induction k with
  | zero => omega
  | succ k ih =>
    rw [flat_succ]
    by_cases h : i < k
    · rw [List.getElem?_append_left (by rw [flat_length]; omega)]; exact ih h
    · obtain rfl : i = k := by omega
      rw [List.getElem?_append_right (by rw [flat_length]; omega), flat_length, Nat.add_sub_cancel_left, ints_get _ _ (by rw [tal_length]; omega), tal_get]

theorem elArr : ElemOf Try.prog 69 70 (.agg (arr (List.replicate 26 0))) 26 208 := ⟨Try.underlying69, info_parts (by kernel_rfl), rfl, by decide⟩

/-- The witness's block, as it is laid. -/
def Wit (w wr : World) : Prop := wr.heap[w.heap.size]? = some (.cells #[.int .i64 0, .int .i64 0, .int .i64 0, .string ⟨#[]⟩] 28 (0, 0)) ∧ Below w.heap.size w wr ∧ w.heap.size + 1 ≤ wr.heap.size

theorem Wit.step {w wr wr' : World} (h : Wit w wr) (hb : Below wr.heap.size wr wr') : Wit w wr' :=
  ⟨by rw [hb.block _ (by have := h.2.2; omega)]; exact h.1, h.2.1.trans (hb.mono (by have := h.2.2; omega)), Nat.le_trans h.2.2 hb.size⟩
theorem Wit.step2 {w wr wr' : World} (h : Wit w wr) (hb : Below (w.heap.size + 1) wr wr') : Wit w wr' :=
  ⟨by rw [hb.block _ (by omega)]; exact h.1, h.2.1.trans (hb.mono (by omega)), Nat.le_trans h.2.2 hb.size⟩

/-- What Balanced returns. -/
def BalOut (s : ByteArray) (w : World) (e : Ending) (w' : World) : Prop :=
  ((∃ n i j c : Nat, Found s 26 n i j c ∧ e = .returned (.tuple #[.bool false, .agg #[.int .i64 n, .int .i64 i, .int .i64 j, .string (ltr c)], .int .i64 0])) ∨
   (okN s 26 s.size ∧ e = .returned (.tuple #[.bool true, .agg #[.int .i64 0, .int .i64 0, .int .i64 0, .string ⟨#[]⟩], .int .i64 0]))) ∧ Below w.heap.size w w'

set_option maxHeartbeats 4000000 in
theorem balanced_good (s : ByteArray) (w : World) (hv : chk (lb s) = 0) :
    Calls Try.prog 13 #[.string s] w (BalOut s w) := by
  obtain ⟨h0, h1⟩ := chk_zero s hv
  have Hv := Lib.hid hv
  clear hv
  go_enter Try.func13, Try.ntmps13
  go_wp2_with fail
  refine (check_any s _ 0 Hv.out.symm).mono ?_
  rintro e w1 ⟨rfl, hb1⟩
  have hwit : Wit w w1 := by
    have hb2 := hb1
    refine ⟨by rw [hb1.block _ (by simp)]; exact heap_alloc_new _ _, ((Below.refl _ _).alloc (Nat.le_refl _) _).trans (hb1.mono (by simp)), by have := hb1.size; simpa using this⟩
  clear hb1
  have Hwit := Lib.hid hwit
  clear hwit
  go_wp2_with fail
  go_loopw [6] (fun n wr => ∃ k : Nat, 1 ≤ k ∧ k ≤ s.size ∧ n = .int .i64 k ∧ Hid (okN s 26 k) ∧ Hid (Wit w wr)) (fun n _ => s.size - (intOf n).toNat)
  case atStart => exact ⟨1, Nat.le_refl _, h0, rfl, fun n a b => by omega, Hwit⟩
  case round =>
    clear Hwit
    obtain ⟨n, hn1, hn2, rfl, Hok, Hwit⟩ := hrel
    by_cases hlt : n < s.size
    · obtain ⟨wo, rfl⟩ : ∃ wo : World, wo = wr := ⟨_, rfl⟩
      go_wp2_with fail
      go_loopw [7, 28] (fun v i wr => ∃ (k c : Nat) (a : Option Addr), k ≤ s.size ∧ i = .int .i64 k ∧ v = .slice a k c ∧ Hid (wr.ownsRow (w.heap.size + 1) 70 26 (.slice a k c) k (flat s n k)) ∧ Hid (Wit w wr)) (fun _ i _ => s.size - (intOf i).toNat)
      case atStart => exact ⟨0, 0, none, Nat.zero_le _, rfl, rfl, World.ownsRow_nil .., Hwit⟩
      case round =>
        clear Hwit
        obtain ⟨i, c, a, hi, rfl, rfl, hown, Hwit⟩ := hrel
        by_cases hlt2 : i < s.size
        · go_wp2_with fail
          refine (tally_any s i n _ Hv.out (by omega) (by omega)).mono ?_
          rintro e w2 ⟨rfl, hb2⟩
          have Hwit2 := Lib.hid (Hwit.out.step hb2)
          have hown2 := Lib.hid (own_below hown.out hb2 (Nat.le_refl _))
          have Hfs := Lib.hid (flat_succ s n i)
          clear hown Hwit hb2
          go_wp2_with (first | (refine wpList_buildSlice_one rfl 69 70 (.tmp 35) rfl _ rfl _ _ _ elArr (by rw [arr_size, tal_length]) (by decide) ?_) | (at_builtin; go_loud (refine wpList_append_new rfl (.tmp 31) (.tmp 36) _ rfl elArr _ 1 (ints (tal s i n)) rfl rfl hown2.out Hwit2.out.2.2 (by rw [ints_length, tal_length]) ?c1 ?c2 ?c3 ?_)))
          case c1 => intro u hu; simp [ints] at hu; obtain ⟨x, _, rfl⟩ := hu; rfl
          case c2 => omega
          case c3 => omega
          intro v' w3 hown3 hg3 _
          obtain ⟨a3, c3, rfl⟩ := own_form hown3
          have hb3 : Below (w.heap.size + 1) w2 w3 := ((Below.refl _ _).alloc Hwit2.out.2.2 _).grown hg3 (by have := Hwit2.out.2.2; simp; omega) (fun k hk => (hown2.out.lt k hk).1)
          have Hwit3 := Lib.hid (Hwit2.out.step2 hb3)
          rw [← Hfs.out] at hown3
          have Hown3 := Lib.hid hown3
          clear hown3 hown2 Hwit2 hg3 hb3
          go_wp2
          go_roundw
          case rel => exact ⟨i + 1, c3, a3, by omega, by go_num, rfl, Hown3, Hwit3⟩
          case measure => simp [intOf]; omega
        · obtain rfl : i = s.size := by omega
          clear hlt2
          obtain ⟨g, cap, hv, hg1, hg2, hg3, hg4, hg5⟩ := own_open hown.out h0
          simp only [Value.slice.injEq] at hv
          obtain ⟨rfl, -, rfl⟩ := hv
          have Hg4 := Lib.hid hg4
          have Hown := hown
          clear hg4 hg5 hown
          obtain ⟨wo2, rfl⟩ : ∃ wo : World, wo = wr := ⟨_, rfl⟩
          have hgw : w.heap.size + 1 ≤ g := hg1
          go_wp2_with fail
          go_loopw [41] (fun i wr => ∃ k : Nat, k ≤ s.size ∧ i = .int .i64 k ∧ Hid (okI s 26 n k) ∧ Hid (Wit w wr ∧ Below wo2.heap.size wo2 wr)) (fun i _ => s.size - (intOf i).toNat)
          case atStart => exact ⟨0, Nat.zero_le _, rfl, fun i hi => by omega, Hwit.out, Below.refl _ _⟩
          case round =>
            clear Hwit
            obtain ⟨i, hi, rfl, HokI, Hw⟩ := hrel
            by_cases hlt2 : i < s.size
            · have hran : wr.rangeAt g (i * 26) (ints (tal s i n)) := by
                intro j v hj
                have hj2 : j < 26 := by have := (List.getElem?_eq_some_iff.1 hj).1; rw [ints_length, tal_length] at this; exact this
                rw [Hw.out.2.cell (p := ⟨g, i * 26 + j, none⟩) hg2, Hg4.out _ (by omega), flat_get _ _ _ _ _ hlt2 hj2]
                rw [ints_get _ _ (by rw [tal_length]; omega), tal_get] at hj
                exact hj
              have Hran := Lib.hid hran
              clear hran
              have hgsz : g < wr.heap.size := by have := Hw.out.2.size; omega
              go_wp2_with (first | (refine wpList_load_mid rfl 70 (.tmp 44) rfl g (i * 26) rfl (ints (tal s i n)) _ Hran.out Try.underlying70 rfl (by rw [ints_length, tal_length]; kernel_rfl) ?_) | (refine wpList_store_row rfl 70 (.tmp 10) (.tmp 45) rfl wr.heap.size _ rfl rfl 70 _ (heap_alloc_new _ _) (by rw [show (ints (tal s i n)).toArray = arr (tal s i n) from rfl, arr_size, tal_length]; kernel_rfl) (by rw [show (ints (tal s i n)).toArray = arr (tal s i n) from rfl, arr_size, tal_length]; rfl) (arr_one _) ?_))
              have hA : RowAt ((wr.alloc (.cells (arr (List.replicate 26 0)) 70)).setRow wr.heap.size (ints (tal s i n)).toArray) wr.heap.size 70 (tal s i n) := setRow_heap _ _ _ _ _ _ (heap_alloc_new _ _)
              have hB : Below wr.heap.size wr ((wr.alloc (.cells (arr (List.replicate 26 0)) 70)).setRow wr.heap.size (ints (tal s i n)).toArray) := below_setRow ((Below.refl _ _).alloc (Nat.le_refl _) _) (Nat.le_refl _) _
              simp only [arr, ints, List.replicate, List.map_cons, List.map_nil] at hA hB ⊢
              generalize (wr.alloc _).setRow wr.heap.size _ = wa at hA hB ⊢
              have Hw2 := Lib.hid (⟨hA, Hw.out.1.step hB, Hw.out.2.trans (hB.mono Hw.out.2.size)⟩ : RowAt wa wr.heap.size 70 (tal s i n) ∧ Wit w wa ∧ Below wo2.heap.size wo2 wa)
              have hgA : g ≠ wr.heap.size := by omega
              have hgA2 : w.heap.size < wr.heap.size := by omega
              generalize wr.heap.size = gA at *
              clear hA hB Hran Hw
              go_loopw [11] (fun j wx => ∃ k : Nat, i + 1 ≤ k ∧ k ≤ s.size ∧ j = .int .i64 k ∧ Hid (okJ s 26 n i k) ∧ Hid (RowAt wx gA 70 (tal s i n) ∧ Wit w wx ∧ Below wo2.heap.size wo2 wx)) (fun j _ => s.size - (intOf j).toNat)
              case atStart => exact ⟨i + 1, Nat.le_refl _, by omega, by go_num, fun j h1 h2 => by omega, Hw2⟩
              case round =>
                clear Hw2
                obtain ⟨j, hj1, hj2, rfl, HokJ, Hw2⟩ := hrel
                by_cases hlt3 : j < s.size
                · go_wp2_with fail
                  go_loopw [54] (fun c wx => ∃ k : Nat, k ≤ 26 ∧ c = .int .i64 k ∧ Hid (okC s n i j k) ∧ Hid (RowAt wx gA 70 (tal s i n) ∧ Wit w wx ∧ Below wo2.heap.size wo2 wx)) (fun c _ => 26 - (intOf c).toNat)
                  case atStart => exact ⟨0, by omega, rfl, fun c h1 => by omega, Hw2⟩
                  case round =>
                    clear Hw2
                    obtain ⟨c, hc1, rfl, HokC, Hw2⟩ := hrel
                    by_cases hlt4 : c < 26
                    · have x1 := Hw2.out.1.cell c (by rw [tal_length]; exact hlt4)
                      rw [tal_get] at x1
                      have x2 := Hw2.out.2.2.cell (p := ⟨g, j * 26 + c, none⟩) hg2
                      rw [Hg4.out _ (by omega), flat_get _ _ _ _ _ hlt3 hlt4] at x2
                      have b1 := partTo_le s i (97 + c).toUInt8 n
                      have b2 := partTo_le s j (97 + c).toUInt8 n
                      have Hbad := Lib.hid (show bad s n i j c ↔ ((1 : Int) < (partTo s i (97 + c).toUInt8 n : Int) - partTo s j (97 + c).toUInt8 n ∨ (partTo s i (97 + c).toUInt8 n : Int) - partTo s j (97 + c).toUInt8 n < -1) from Iff.rfl)
                      generalize partTo s i (97 + c).toUInt8 n = p at *
                      generalize partTo s j (97 + c).toUInt8 n = q at *
                      have hw1 : IntKind.i64.wrap ((p : Int) - q) = (p : Int) - q := IntWalk.i64_in _ (by omega)
                      have hw2 : wrap64 ((p : Int) - q) = (p : Int) - q := IntWalk.wrap64_in _ ⟨by omega, by omega⟩
                      have hconv := conv_rune c (by omega)
                      by_cases hd1 : 1 < (p : Int) - q
                      · have Hb := Lib.hid (Hbad.out.2 (.inl hd1))
                        clear Hbad
                        go_wp2_with fail
                        go_quiet (fail)
                        have hnq := Lib.hid (show Below wr.heap.size wr (wr.drewN nq) from below_drawn _ _)
                        go_wp2_with (refine wpList_store_row rfl 28 (.tmp 3) (.tmp 80) rfl w.heap.size _ rfl rfl 28 _ Hw2.out.2.1.1 (by kernel_rfl) rfl (by simp [Value.oneCell']) ?_)
                        refine bodyPost_ret (results_tct rfl _ _ w.heap.size 28 _ (0, 0) _ rfl (setRow_heap _ _ _ _ _ _ Hw2.out.2.1.1) Try.underlying28 rfl (by kernel_rfl)) rfl ⟨.inl ⟨n, i, j, c, ⟨hn1, hlt, hj1, hlt3, hlt4, Hb.out, HokC.out, HokJ.out, HokI.out, Hok.out⟩, rfl⟩, below_setRow (Hw2.out.2.1.2.1.trans (hnq.out.mono Hw2.out.2.1.2.1.size)) (Nat.le_refl _) _⟩
                      · by_cases hd2 : (p : Int) - q < -1
                        · have Hb := Lib.hid (Hbad.out.2 (.inr hd2))
                          clear Hbad
                          go_wp2_with fail
                          go_quiet (fail)
                          have hnq := Lib.hid (show Below wr.heap.size wr (wr.drewN nq) from below_drawn _ _)
                          go_wp2_with (refine wpList_store_row rfl 28 (.tmp 3) (.tmp 80) rfl w.heap.size _ rfl rfl 28 _ Hw2.out.2.1.1 (by kernel_rfl) rfl (by simp [Value.oneCell']) ?_)
                          refine bodyPost_ret (results_tct rfl _ _ w.heap.size 28 _ (0, 0) _ rfl (setRow_heap _ _ _ _ _ _ Hw2.out.2.1.1) Try.underlying28 rfl (by kernel_rfl)) rfl ⟨.inl ⟨n, i, j, c, ⟨hn1, hlt, hj1, hlt3, hlt4, Hb.out, HokC.out, HokJ.out, HokI.out, Hok.out⟩, rfl⟩, below_setRow (Hw2.out.2.1.2.1.trans (hnq.out.mono Hw2.out.2.1.2.1.size)) (Nat.le_refl _) _⟩
                        · have HokC2 : Hid (okC s n i j (c + 1)) := fun c' hc' hb => by
                            rcases Nat.lt_or_ge c' c with h | h
                            · exact HokC.out c' h hb
                            · obtain rfl : c' = c := by omega
                              rcases Hbad.out.1 hb with h | h
                              · exact hd1 h
                              · exact hd2 h
                          clear Hbad HokC hconv
                          have r1 : (p : Int) - q ≤ 1 := by omega
                          have r2 : -1 ≤ (p : Int) - q := by omega
                          clear hd1 hd2
                          go_wp2_with fail
                          go_quiet (fail)
                          have Hw3 : Hid (RowAt (wr.drewN nq) gA 70 (tal s i n) ∧ Wit w (wr.drewN nq) ∧ Below wo2.heap.size wo2 (wr.drewN nq)) := ⟨Hw2.out.1, Hw2.out.2.1.step (below_drawn _ _), below_dn Hw2.out.2.2 _⟩
                          clear Hw2
                          go_wp2
                          go_roundw
                          case rel => exact ⟨c + 1, by omega, by go_num, HokC2, Hw3⟩
                          case measure => simp [intOf]; omega
                    · obtain rfl : c = 26 := by omega
                      have HokJ2 : Hid (okJ s 26 n i (j + 1)) := fun j' h1 h2 => by
                        rcases Nat.lt_or_ge j' j with h | h
                        · exact HokJ.out j' h1 h
                        · obtain rfl : j' = j := by omega
                          exact HokC.out
                      clear HokJ HokC
                      go_wp2
                      go_roundw
                      case rel => exact ⟨j + 1, by omega, by omega, by go_num, HokJ2, Hw2⟩
                      case measure => simp [intOf]; omega
                · obtain rfl : j = s.size := by omega
                  have HokI2 : Hid (okI s 26 n (i + 1)) := fun i' h1 => by
                    rcases Nat.lt_or_ge i' i with h | h
                    · exact HokI.out i' h
                    · obtain rfl : i' = i := by omega
                      exact HokJ.out
                  clear HokI HokJ
                  go_wp2
                  go_roundw
                  case rel => exact ⟨i + 1, by omega, by go_num, HokI2, Hw2.out.2⟩
                  case measure => simp [intOf]; omega
            · obtain rfl : i = s.size := by omega
              have HokN2 : Hid (okN s 26 (n + 1)) := fun n' h1 h2 => by
                rcases Nat.lt_or_ge n' n with h | h
                · exact Hok.out n' h1 h
                · obtain rfl : n' = n := by omega
                  exact HokI.out
              clear HokI Hok
              go_wp2
              go_roundw
              case rel => exact ⟨n + 1, by omega, by omega, by go_num, HokN2, Hw.out.1⟩
              case measure => simp [intOf]; omega
    · obtain rfl : n = s.size := by omega
      go_wp2_with (refine wpList_store_row rfl 28 (.tmp 3) (.tmp 83) rfl w.heap.size _ rfl rfl 28 _ Hwit.out.1 (by kernel_rfl) rfl (by simp [Value.oneCell']) ?_)
      refine bodyPost_ret (results_tct rfl _ _ w.heap.size 28 _ (0, 0) _ rfl (setRow_heap _ _ _ _ _ _ Hwit.out.1) Try.underlying28 rfl (by kernel_rfl)) rfl ⟨.inr ⟨Hok.out, rfl⟩, below_setRow Hwit.out.2.1 (Nat.le_refl _) _⟩

end Go.Proofs.Ytgijighdalaemaa
