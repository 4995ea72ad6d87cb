/- Walks of word.Counts and word.tally. -/
import Derived.Test.YtgijighdalaemaaWordG
import Derived.Test.YtgijighdalaemaaHeap
namespace Go.Proofs.Ytgijighdalaemaa
open Go.RowKit

set_option maxHeartbeats 1000000 in
theorem counts_good (s : ByteArray) (w : World) (hv : chk (lb s) = 0) :
    Calls Try.prog 26 #[.string s] w fun e w' => ∃ v, e = .returned (.tuple #[v, .int .i64 0]) ∧ CntAt w (cnt (lb s)) v w' := by
  obtain ⟨h0, h1⟩ := chk_zero s hv
  have Hl := Lib.hid (chk_letters s hv)
  have Hv := Lib.hid hv
  clear hv
  go_enter Try.func26, Try.ntmps26
  go_wp2_with fail
  refine (check_any s w 0 Hv.out.symm).mono ?_
  rintro e w1 ⟨rfl, hb1⟩
  go_wp2_with fail
  go_loopw [5, 15] (fun v i wr => ∃ (k n c : Nat) (a : Option Addr), k ≤ s.size ∧ i = .int .i64 k ∧ v = .slice a n c ∧ n ≤ 26 ∧ Hid (OwnInts wr w.heap.size a n c (cnt ((lb s).take k))) ∧ Below w.heap.size w wr) (fun _ i _ => s.size - (intOf i).toNat)
  case atStart => exact ⟨0, 0, 0, none, Nat.zero_le _, rfl, rfl, Nat.zero_le _, OwnInts.nil _ _, hb1⟩
  case round =>
    clear hb1
    obtain ⟨k, n, c, a, hk, rfl, rfl, hn26, hown, hbl⟩ := hrel
    by_cases hlt : k < s.size
    · obtain ⟨hr1, hr2⟩ := letter_range s Hl.out k hlt
      have hsn := cnt_snoc ((lb s).take k) s[k]
      rw [← lb_take_succ s k hlt] at hsn
      obtain ⟨K, hK⟩ : ∃ K : Nat, (s[k].toNat : Int) - 97 = K := ⟨s[k].toNat - 97, by omega⟩
      rw [show s[k].toNat - 97 = K by omega] at hsn
      have Hsn := Lib.hid hsn
      have hK2 : K ≤ 25 := by omega
      have Hsm := Lib.hid (cnt_small ((lb s).take k))
      have Hlt : ((lb s).take k).length ≤ 60 := by rw [List.length_take, lb_length]; omega
      clear hsn
      have hn := hown.out.len
      generalize cnt (List.take k (lb s)) = l at *
      generalize (List.take k (lb s)).length = t at *
      have Hn := Lib.hid hn
      clear hn
      obtain ⟨wo, rfl⟩ : ∃ wo : World, wo = wr := ⟨_, rfl⟩
      go_wp2_with fail
      go_loopw [5] (fun v wr => ∃ (m n' c : Nat) (a : Option Addr), v = .slice a n' c ∧ n' ≤ 26 ∧ Hid (OwnInts wr w.heap.size a n' c (l ++ List.replicate m 0) ∧ (m = 0 ∨ n' ≤ K + 1)) ∧ Below w.heap.size w wr) (fun v _ => K + 1 - (match v with | .slice _ n _ => n | _ => 0))
      case atStart => exact ⟨0, n, c, a, rfl, hn26, ⟨by simpa using hown.out, .inl rfl⟩, hbl⟩
      case round =>
        clear hown hbl
        obtain ⟨m, n', c, a, rfl, hn', hown, hbl⟩ := hrel
        by_cases hle : n' ≤ K
        · go_wp2_with (at_builtin; refine wpList_append_new rfl (.tmp 27) (.tmp 28) _ rfl elInt _ 1 [.int .i64 0] rfl rfl hown.out.1 hbl.size rfl ?c1 ?c2 ?c3 ?_)
          case c1 => intro u hu; simp at hu; subst hu; rfl
          case c2 => omega
          case c3 => omega
          intro v' w1 hown1 hg1 _
          obtain ⟨a1, c1, rfl⟩ := own_form hown1
          have hbl1 := (hbl.alloc hbl.size _).grown hg1 (by have := hbl.size; simp; omega) (fun k hk => (hown.out.1.lt k hk).1)
          have hown2 : Hid (OwnInts w1 w.heap.size a1 (n' + 1) c1 (l ++ List.replicate (m + 1) 0) ∧ (m + 1 = 0 ∨ n' + 1 ≤ K + 1)) := by
            refine ⟨?_, .inr (by omega)⟩
            unfold OwnInts
            rw [List.replicate_succ', ← List.append_assoc, ints_append]
            exact hown1
          clear hown1 hg1 hown hbl
          go_wp2
          go_roundw
          case rel => exact ⟨m + 1, n' + 1, c1, a1, rfl, by omega, hown2, hbl1⟩
          case measure => simp; omega
        · have hlen := hown.out.1.len
          have hm := hown.out.2
          simp only [List.length_append, List.length_replicate] at hlen
          obtain ⟨g, rfl, hg1, hg2, hg3, hg4, hg5⟩ := hown.out.1.open (by omega)
          have hc := hg4 K (by simp; omega)
          have hf := hg5 K
          have hb := bump_at l K m (by have := Hn.out; omega)
          have hsto := hown.out.1.store K ((l ++ List.replicate m 0).getD K 0 + 1)
          rw [← hb] at hsto
          have hsm : Small t (l ++ List.replicate m 0) := by
            intro x hx
            rcases List.mem_append.1 hx with hx | hx
            · exact Hsm.out x hx
            · have := List.eq_of_mem_replicate hx; subst this; omega
          have hx := getD_small (by omega) hsm K
          have he : (l ++ List.replicate m 0)[K]'(by simp; omega) = (l ++ List.replicate m 0).getD K 0 := by
            rw [List.getD_eq_getElem?_getD, List.getElem?_eq_getElem (by simp; omega)]; rfl
          rw [he] at hc
          obtain ⟨hx1, hx2⟩ := hx
          have Hsto := Lib.hid hsto
          have Hlen := Lib.hid hlen
          clear hsm hown hlen hm hb he hsto hg4 hg5
          generalize (l ++ List.replicate m 0).getD K 0 = x at *
          go_wp2
          go_roundw
          case rel => exact ⟨k + 1, n', c, _, by omega, by go_num, rfl, hn', by rw [Hsn.out]; exact Hsto.out, hbl.setCell hg1 _⟩
          case measure => simp [intOf]; omega
    · obtain rfl : k = s.size := by omega
      go_wp2
      go_ret2
      refine ⟨_, rfl, ?_, hbl⟩
      have := hown.out
      rw [List.take_of_length_le (by rw [lb_length]; omega)] at this
      rw [this.len]; exact this


set_option maxHeartbeats 400000 in
theorem counts_bad (s : ByteArray) (w : World) (v : Int) (hv : v = chk (lb s)) (hne : v ≠ 0) :
    Gives Try.prog 26 #[.string s] w (.tuple #[.slice none 0 0, .int .i64 v]) := by
  unfold Gives
  have hb : (v == 0) = false := by simpa using hne
  have hb' : (v != 0) = true := by simpa using hne
  have Hv := Lib.hid hv
  clear hv hne
  go_enter Try.func26, Try.ntmps26
  go_wp2_with fail
  refine (check_any s w v Hv.out).mono ?_
  rintro e w1 ⟨rfl, hb1⟩
  go_wp2
  go_ret2
  exact ⟨rfl, hb1⟩

end Go.Proofs.Ytgijighdalaemaa
