/- Lemmas for the laws of this seat, part 2. -/
import Derived.Lib.ItoaMem
import Derived.Lib.ParseIntBCases
import Derived.Lib.AtoiErrMem
import Derived.Maps.AppendAt
import Derived.StillTail
import Derived.Lib.QuietBelow
import Derived.Test.YtlomhfknmhaboaaGreatDoorMg1
/- Check and Compare; small numbers as text and back. -/
namespace Go.Proofs.YtlomhfknmhaboaaGreatDoor
open Go.RowKit

set_option maxHeartbeats 1000000 in
theorem check_any (w : World) (s : ByteArray) (hl : s.size ≤ 10000000) :
    Gives Tryz.prog 77 #[.string s] w (.int .i64 (if Canon (lb s) ∧ s.size ≤ 400 then 0 else 2)) := by
  unfold Gives
  have Hc := Lib.hid (canonical_any w s hl)
  by_cases hc : Canon (lb s)
  · rw [decide_eq_true hc] at Hc
    by_cases h4 : s.size ≤ 400
    · rw [if_pos ⟨hc, h4⟩]
      clear hc
      go_enter Tryz.func77, Tryz.ntmps77
      go_wp2_with fail
      refine Calls.mono Hc.out ?_
      rintro e w1 ⟨rfl, hb⟩
      have Hb := Lib.hid hb
      clear hb
      go_wp2
      go_ret
      exact ⟨rfl, Hb.out⟩
    · rw [if_neg (fun h => h4 h.2)]
      clear hc
      go_enter Tryz.func77, Tryz.ntmps77
      go_wp2_with fail
      refine Calls.mono Hc.out ?_
      rintro e w1 ⟨rfl, hb⟩
      have Hb := Lib.hid hb
      clear hb
      go_wp2
      go_ret
      exact ⟨rfl, Hb.out⟩
  · rw [decide_eq_false hc] at Hc
    rw [if_neg (fun h => hc h.1)]
    clear hc
    go_enter Tryz.func77, Tryz.ntmps77
    go_wp2_with fail
    refine Calls.mono Hc.out ?_
    rintro e w1 ⟨rfl, hb⟩
    have Hb := Lib.hid hb
    clear hb
    go_wp2
    go_ret
    exact ⟨rfl, Hb.out⟩

theorem toList_lb (s : ByteArray) : s.toList = lb s := by
  exact ByteArray.toList_eq s

theorem less_dec (a b : Nat) (h : (Lib.decDigits a).length = (Lib.decDigits b).length) : Op.bytesLess (dec a).toList (dec b).toList = decide (a < b) := by
  rw [toList_lb, toList_lb, lb_dec, lb_dec]
  have := digs_less _ _ (dec_digs a) (dec_digs b) h
  rw [dval_dec, dval_dec] at this
  by_cases hlt : a < b
  · rw [decide_eq_true hlt]; exact this.2 hlt
  · rw [decide_eq_false hlt]
    cases hx : Op.bytesLess (Lib.decDigits a) (Lib.decDigits b) with
    | false => rfl
    | true => exact absurd (this.1 hx) hlt

theorem same_dec (a b : Nat) : ((dec a).toList == (dec b).toList) = decide (a = b) := by
  rw [toList_lb, toList_lb, lb_dec, lb_dec]
  by_cases h : a = b
  · subst h; simp
  · rw [decide_eq_false h, beq_eq_false_iff_ne]
    exact fun e => h (dec_inj e)

set_option maxHeartbeats 1000000 in
theorem compareS_any (w : World) (a b : Nat) (ha : (dec a).size ≤ 10000000) (hb : (dec b).size ≤ 10000000) :
    Gives Tryz.prog 87 #[.string (dec a), .string (dec b)] w (.int .i64 (cmpN a b)) := by
  unfold Gives
  by_cases hlen : (dec a).size = (dec b).size
  · have hl2 : (Lib.decDigits a).length = (Lib.decDigits b).length := by rw [← dec_size, ← dec_size]; exact hlen
    have h1 := less_dec a b hl2
    have h2 := same_dec a b
    have hlen2 : (((dec a).size : Int) != (dec b).size) = false := by simp [hlen]
    rcases Nat.lt_trichotomy a b with hlt | heq | hgt
    · have Hv : Hid (cmpN a b = -1) := by show _ = _; unfold cmpN; rw [if_pos hlt]
      rw [decide_eq_true hlt] at h1
      clear h2 hl2 hlen hlt
      generalize dec a = s at *
      generalize dec b = t at *
      go_enter Tryz.func87, Tryz.ntmps87
      go_wp2
      go_ret
      exact ⟨by rw [Hv.out]; rfl, Below.refl _ _⟩
    · have Hv : Hid (cmpN a b = 0) := by show _ = _; unfold cmpN; rw [if_neg (by omega), if_pos heq]
      rw [decide_eq_false (show ¬ a < b by omega)] at h1
      rw [decide_eq_true heq] at h2
      clear hl2 hlen heq
      generalize dec a = s at *
      generalize dec b = t at *
      go_enter Tryz.func87, Tryz.ntmps87
      go_wp2
      go_ret
      exact ⟨by rw [Hv.out]; rfl, Below.refl _ _⟩
    · have Hv : Hid (cmpN a b = 1) := by show _ = _; unfold cmpN; rw [if_neg (by omega), if_neg (by omega)]
      rw [decide_eq_false (show ¬ a < b by omega)] at h1
      rw [decide_eq_false (show ¬ a = b by omega)] at h2
      clear hl2 hlen hgt
      generalize dec a = s at *
      generalize dec b = t at *
      go_enter Tryz.func87, Tryz.ntmps87
      go_wp2
      go_ret
      exact ⟨by rw [Hv.out]; rfl, Below.refl _ _⟩
  · rcases Nat.lt_or_gt_of_ne hlen with h | h
    · have Hv : Hid (cmpN a b = -1) := by
        show _ = _
        have := dec_len_lt (a := a) (b := b) (by rw [← dec_size, ← dec_size]; exact h)
        unfold cmpN; rw [if_pos this]
      clear hlen
      generalize dec a = s at *
      generalize dec b = t at *
      have hnn : ((s.size : Int) != t.size) = true := by rw [bne_iff_ne]; omega
      have hnn2 : ((s.size : Int) == t.size) = false := by rw [beq_eq_false_iff_ne]; omega
      go_enter Tryz.func87, Tryz.ntmps87
      go_wp2
      all_goals
        go_ret
        exact ⟨by rw [Hv.out]; first | rfl | exact ret_int (by omega), Below.refl _ _⟩
    · have Hv : Hid (cmpN a b = 1) := by
        show _ = _
        have := dec_len_lt (a := b) (b := a) (by rw [← dec_size, ← dec_size]; exact h)
        unfold cmpN; rw [if_neg (by omega), if_neg (by omega)]
      clear hlen
      generalize dec a = s at *
      generalize dec b = t at *
      have hnn : ((s.size : Int) != t.size) = true := by rw [bne_iff_ne]; omega
      have hnn2 : ((s.size : Int) == t.size) = false := by rw [beq_eq_false_iff_ne]; omega
      go_enter Tryz.func87, Tryz.ntmps87
      go_wp2
      all_goals
        go_ret
        exact ⟨by rw [Hv.out]; first | rfl | exact ret_int (by omega), Below.refl _ _⟩

/-! The library's variables. -/

/-- A variable that holds an error. -/
def ErrAt (w : World) (g : Nat) : Prop := ∃ ev, w.cell? ⟨g, 0, none⟩ = some ev ∧ (ev = .nilIface ∨ ∃ te pe, ev = .iface te pe)

theorem ErrAt.below {w w' : World} {g : Nat} (h : ErrAt w g) (b : Below w.heap.size w w') : ErrAt w' g := by
  obtain ⟨ev, h1, h2⟩ := h
  exact ⟨ev, by rw [b.cell (Lib.lt_of_cell h1)]; exact h1, h2⟩

/-- What the run finds laid. -/
structure Laid (w : World) : Prop where
  tab : Lib.TabIs Tryz.prog w "internal/strconv.uint64pow10" .u64 Lib.pow10Tab
  range : ErrAt w 3
  syn : ErrAt w 2

theorem name_pow10 : Tryz.prog.globalNamed "internal/strconv.uint64pow10" = some 0 := by kernel_rfl

theorem Laid.below {w w' : World} (h : Laid w) (b : Below w.heap.size w w') : Laid w' := by
  refine ⟨?_, h.range.below b, h.syn.below b⟩
  have hc := Lib.TabIs.cell h.tab name_pow10 0 (by decide)
  exact var?_below b name_pow10 (Lib.lt_of_cell hc) h.tab

theorem len24 : Tryz.prog.arrayLen 202 = 24 := by simp [Program.arrayLen, Tryz.underlying202]

set_option maxRecDepth 100000 in
set_option maxHeartbeats 4000000 in
theorem format_any (w : World) (n : Nat) (hn : n < 18446744073709551616) (L : Laid w) :
    Gives Tryz.prog 168 #[.int .u64 n, .int .i64 10] w (.string (dec n)) := by
  unfold Gives
  by_cases hs : n < 100
  · have Hs := Lib.hid (fun w' => Tryz.internal_strconv_small n hs w')
    have Hd : Hid (dec n = ⟨(Lib.decDigits n).toArray⟩) := rfl
    go_enter Tryz.func168, Tryz.ntmps168
    go_wp2_with fail
    refine Calls.mono (Hs.out _) ?_
    rintro e w1 ⟨rfl, rfl⟩
    go_wp2
    go_ret
    exact ⟨by rw [Hd.out]; rfl, Below.refl _ _⟩
  · have hu1 : 1 ≤ n := by omega
    have hnd20 : Lib.nDigits n ≤ 20 := by have := Lib.numDigits_eq n hu1 hn; split at this <;> omega
    have htab := Lib.tabIs_alloc L.tab (.cells Lib.zeros24 202)
    have Hnd := Lib.hid (Tryz.internal_strconv_numDigits n hu1 hn _ htab)
    have hsl : ∀ W, (Instr.sliceAt 202 (.pointer (some ⟨w.heap.size, 0, none⟩)) none (some (.int .i64 (Lib.nDigits n : Int))) none).run Tryz.prog W = .ok (.slice (some ⟨w.heap.size, 0, none⟩) (Lib.nDigits n) 24) W := fun W => by
      rw [run_sliceAt_array_h W 202 ⟨w.heap.size, 0, none⟩ (by simp [Program.arrayLen, Program.elem, Tryz.underlying202]) .i64 (Lib.nDigits n : Int) (by omega) (by rw [len24]; omega)]
      go_simp
    have hH0 : Go.Sort.Holds (fun (b : UInt8) => Value.int .u8 (b.toNat : Int)) (w.alloc (.cells Lib.zeros24 202)) w.heap.size 0 (Array.replicate (Lib.nDigits n) (0 : UInt8)) := fun j hj => by
      have hj' : j < Lib.nDigits n := by simpa using hj
      refine ⟨?_, World.frozen?_alloc_new _ _ _ _⟩
      rw [World.cell?_alloc_new, Lib.zeros24_at _ (by omega), getElem!_pos _ j hj]
      simp
    have hfmt := Tryz.internal_strconv_formatBase10 w.heap.size 0 24 n (Array.replicate (Lib.nDigits n) 0) (w.alloc (.cells Lib.zeros24 202)) hH0 (by rw [Array.size_replicate]; exact Lib.lt_pow_nDigits n) hn (by rw [Array.size_replicate]; omega)
    rw [Array.size_replicate] at hfmt
    have Hfmt := Lib.hid hfmt
    have HH0 := Lib.hid hH0
    have Hd : Hid (dec n = ⟨(Lib.decDigits n).toArray⟩) := rfl
    have hn100 : ¬ (n : Int) < 100 := by omega
    clear hH0 hfmt htab
    go_enter Tryz.func168, Tryz.ntmps168
    go_wp2_with fail
    refine Calls.mono Hnd.out ?_
    rintro e w1 ⟨rfl, rfl⟩
    go_wp2_with fail
    refine Calls.mono Hfmt.out ?_
    rintro e w1 ⟨rfl, k, v', dk, rfl, hF⟩
    have hcv : (convert 142 9 (.slice (some ⟨w.heap.size, 0, none⟩) (Lib.nDigits n) 24)).run Tryz.prog ((Go.Sort.putRow (fun (b : UInt8) => Value.int .u8 (b.toNat : Int)) (w.alloc (.cells Lib.zeros24 202)) w.heap.size 0 dk).drewN k) = .ok (.string ⟨(Lib.decDigits n).toArray⟩) ((Go.Sort.putRow (fun (b : UInt8) => Value.int .u8 (b.toNat : Int)) (w.alloc (.cells Lib.zeros24 202)) w.heap.size 0 dk).drewN k) := by
      have h := run_convert_bytes_back (P := Tryz.prog) ((Go.Sort.putRow (fun (b : UInt8) => Value.int .u8 (b.toNat : Int)) (w.alloc (.cells Lib.zeros24 202)) w.heap.size 0 dk).drewN k) 142 9 5 ⟨w.heap.size, 0, none⟩ 24 (Lib.decDigits n) Tryz.underlying142 Tryz.underlying5 Tryz.underlying9 (fun j hj => by
        rw [Lib.row_is_numeral hF j hj, Lib.add_plain, World.cell?_drewN]
        exact Go.Sort.cell?_putRow (fun (b : UInt8) => Value.int .u8 (b.toNat : Int)) _ w.heap.size 0 _ dk HH0.out (by rw [hF.size, Array.size_replicate]) j (by rw [hF.size]; rw [Lib.decDigits_length] at hj; exact hj))
      rw [Lib.decDigits_length] at h
      exact h
    have hbel : Below w.heap.size w ((Go.Sort.putRow (fun (b : UInt8) => Value.int .u8 (b.toNat : Int)) (w.alloc (.cells Lib.zeros24 202)) w.heap.size 0 dk).drewN k) :=
      Lib.below_putRow (q := k) ((Below.refl _ _).alloc (Nat.le_refl _) _) (Nat.le_refl _)
    have Hbel := Lib.hid hbel
    clear hbel HH0 hF
    generalize (Go.Sort.putRow (fun (b : UInt8) => Value.int .u8 (b.toNat : Int)) (w.alloc (.cells Lib.zeros24 202)) w.heap.size 0 dk).drewN k = w2 at *
    go_wp2
    go_ret
    exact ⟨by rw [Hd.out]; rfl, Hbel.out⟩

set_option maxHeartbeats 1000000 in
theorem formatS_any (w : World) (n : Nat) (hn : n < 18446744073709551616) (L : Laid w) :
    Gives Tryz.prog 146 #[.int .u64 n, .int .i64 10] w (.string (dec n)) := by
  unfold Gives
  have Hc := Lib.hid (format_any w n hn L)
  go_enter Tryz.func146, Tryz.ntmps146
  go_wp2_with fail
  refine Calls.mono Hc.out ?_
  rintro e w1 ⟨rfl, hb⟩
  have Hb := Lib.hid hb
  clear hb
  go_wp2
  go_ret
  exact ⟨rfl, Hb.out⟩

set_option maxHeartbeats 1000000 in
theorem of_any (w : World) (n : Nat) (hn : n < 18446744073709551616) (L : Laid w) :
    Gives Tryz.prog 122 #[.int .u64 n] w (.string (dec n)) := by
  unfold Gives
  have Hc := Lib.hid (formatS_any w n hn L)
  go_enter Tryz.func122, Tryz.ntmps122
  go_wp2_with fail
  refine Calls.mono Hc.out ?_
  rintro e w1 ⟨rfl, hb⟩
  have Hb := Lib.hid hb
  clear hb
  go_wp2
  go_ret
  exact ⟨rfl, Hb.out⟩

/-! From text to a number. -/
theorem parse_digs : ∀ (l : List UInt8) (acc : Nat), Digs l → acc < 18446744073709551616 →
    Lib.parseUint10 acc l = if acc * 10 ^ l.length + dval l < 18446744073709551616 then .ok (acc * 10 ^ l.length + dval l) else .range
  | [], acc, _, ha => by simp [Lib.parseUint10, dval, ha]
  | c :: r, acc, hd, ha => by
    have hc := hd c List.mem_cons_self
    have hr : Digs r := fun x hx => hd x (List.mem_cons_of_mem _ hx)
    have hp : 0 < 10 ^ r.length := Nat.pow_pos (by decide)
    have hv : acc * 10 ^ (c :: r).length + dval (c :: r) = (acc * 10 + (c.toNat - 48)) * 10 ^ r.length + dval r := by
      rw [dval_cons, List.length_cons, Nat.pow_succ, Nat.add_mul]
      rw [Nat.mul_assoc, Nat.mul_comm 10 (10 ^ r.length)]; omega
    rw [hv]
    have hge : acc * 10 + (c.toNat - 48) ≤ (acc * 10 + (c.toNat - 48)) * 10 ^ r.length := Nat.le_mul_of_pos_right _ hp
    simp only [Lib.parseUint10]
    rw [if_pos hc]
    by_cases h1 : 1844674407370955162 ≤ acc
    · rw [if_pos h1, if_neg (by omega)]
    · rw [if_neg h1]
      by_cases h2 : 18446744073709551616 ≤ acc * 10 + (c.toNat - 48)
      · rw [if_pos h2, if_neg (by omega)]
      · rw [if_neg h2, parse_digs r _ hr (by omega)]

theorem parse_dec (n : Nat) : Lib.parseUintB 64 (dec n).data.toList = if n < 18446744073709551616 then .ok n else .range := by
  show Lib.parseUintB 64 (lb (dec n)) = _
  rw [lb_dec, Lib.parseUintB_64]
  unfold Lib.parseMag
  have h := dec_pos n
  rw [if_neg (by intro e; rw [e] at h; simp at h), parse_digs _ 0 (dec_digs n) (by decide), dval_dec]
  simp

set_option maxHeartbeats 2000000 in
theorem smallS_any (w : World) (n : Nat) (hs : (dec n).size ≤ 10000000) (L : Laid w) :
    Gives Tryz.prog 165 #[.string (dec n)] w (if n < 18446744073709551616 then .tuple #[.int .u64 n, .bool true] else .tuple #[.int .u64 0, .bool false]) := by
  unfold Gives
  have hp := parse_dec n
  by_cases hn : n < 18446744073709551616
  · rw [if_pos hn] at hp ⊢
    have Hc := Lib.hid (Tryz.strconv_ParseUint_10_at64_ok (dec n) (by omega) n hp w)
    have Hb0 := Lib.hid (below_bytes w 5 (dec n))
    clear hp
    generalize dec n = s at *
    go_enter Tryz.func165, Tryz.ntmps165
    go_wp2_with fail
    refine Calls.mono Hc.out ?_
    rintro e w1 ⟨rfl, hw⟩
    have Hb : Hid (Below w.heap.size w w1) := by
      show Below _ _ _
      rcases hw with rfl | rfl
      · exact Below.refl _ _
      · exact Hb0.out
    clear hw
    go_wp2
    go_ret2
    exact ⟨rfl, Hb.out⟩
  · rw [if_neg hn] at hp ⊢
    obtain ⟨ev, hv, hev⟩ := L.range
    have Hc := Lib.hid (Tryz.strconv_ParseUint_10_at64_range (dec n) (by omega) hp ev w hv hev)
    clear hp hv hev
    generalize dec n = s at *
    go_enter Tryz.func165, Tryz.ntmps165
    go_wp2_with fail
    refine Calls.mono Hc.out ?_
    rintro e w1 ⟨N, rfl, -, -, hb⟩
    have Hb := Lib.hid hb
    clear hb
    go_wp2
    go_ret2
    exact ⟨rfl, Hb.out⟩

theorem dec_small18 (n : Nat) : (dec n).size ≤ 18 ↔ n < 1000000000000000000 := by
  rw [dec_size, dec_length n 18 (by decide)]

set_option maxHeartbeats 2000000 in
theorem both_any (w : World) (a b : Nat) (ha : (dec a).size ≤ 10000000) (hb : (dec b).size ≤ 10000000) (L : Laid w) :
    Gives Tryz.prog 141 #[.string (dec a), .string (dec b)] w (if a < 1000000000000000000 ∧ b < 1000000000000000000 then .tuple #[.int .u64 a, .int .u64 b, .bool true] else .tuple #[.int .u64 0, .int .u64 0, .bool false]) := by
  unfold Gives
  by_cases h1 : a < 1000000000000000000
  · by_cases h2 : b < 1000000000000000000
    · rw [if_pos ⟨h1, h2⟩]
      have s1 := (dec_small18 a).2 h1
      have s2 := (dec_small18 b).2 h2
      have Hc1 := Lib.hid (smallS_any w a ha L)
      rw [if_pos (by omega)] at Hc1
      have Hc2 : Hid (∀ w', Below w.heap.size w w' → Calls Tryz.prog 165 #[.string (dec b)] w' fun e w'' => e = .returned (.tuple #[.int .u64 b, .bool true]) ∧ Below w'.heap.size w' w'') := fun w' hb' => by
        have := smallS_any w' b hb (L.below hb')
        rw [if_pos (by omega)] at this
        exact this
      clear L
      generalize dec a = s at *
      generalize dec b = t at *
      go_enter Tryz.func141, Tryz.ntmps141
      go_wp2_with fail
      refine Calls.mono Hc1.out ?_
      rintro e w1 ⟨rfl, hb1⟩
      have Hb1 := Lib.hid hb1
      clear hb1
      go_wp2_with fail
      refine Calls.mono (Hc2.out w1 Hb1.out) ?_
      rintro e w2 ⟨rfl, hb2⟩
      have Hb2 := Lib.hid (Hb1.out.trans (hb2.mono Hb1.out.size))
      clear hb2 Hb1
      go_wp2
      go_ret3
      exact ⟨rfl, Hb2.out⟩
    · rw [if_neg (fun h => h2 h.2)]
      have s1 := (dec_small18 a).2 h1
      have s2 : ¬ (dec b).size ≤ 18 := fun h => h2 ((dec_small18 b).1 h)
      clear L
      generalize dec a = s at *
      generalize dec b = t at *
      go_enter Tryz.func141, Tryz.ntmps141
      go_wp2
      go_ret3
      exact ⟨rfl, Below.refl _ _⟩
  · rw [if_neg (fun h => h1 h.1)]
    have s1 : ¬ (dec a).size ≤ 18 := fun h => h1 ((dec_small18 a).1 h)
    clear L
    generalize dec a = s at *
    generalize dec b = t at *
    go_enter Tryz.func141, Tryz.ntmps141
    go_wp2
    go_ret3
    exact ⟨rfl, Below.refl _ _⟩

end Go.Proofs.YtlomhfknmhaboaaGreatDoor

/- Mul, DivMod, Gcd and Lcm over decimal texts. -/
namespace Go.Proofs.YtlomhfknmhaboaaGreatDoor
open Go.RowKit

/-- A number whose text is not long. -/
def Num (n : Nat) : Prop := (dec n).size ≤ 1000000

theorem limbs_of_dec (n k : Nat) (hk : 0 < k) (h : (dec n).size ≤ k) : (limbs n).length ≤ k := by
  rw [dec_size, dec_length n k hk] at h
  rw [limbs_length]
  exact Nat.lt_of_lt_of_le h (Nat.pow_le_pow_left (by decide) k)

theorem dec_mono {a b : Nat} (h : a ≤ b) : (dec a).size ≤ (dec b).size := by
  rw [dec_size, dec_size]
  rcases Nat.lt_or_ge (Lib.decDigits b).length (Lib.decDigits a).length with h2 | h2
  · have := dec_len_lt h2; omega
  · exact h2

theorem Num.le {a b : Nat} (hb : Num b) (h : a ≤ b) : Num a := Nat.le_trans (dec_mono h) hb

theorem limbs_mul_le (a b : Nat) : (limbs (a * b)).length ≤ (limbs a).length + (limbs b).length := by
  rw [limbs_length, Nat.pow_add]
  exact Nat.mul_lt_mul'' ((limbs_length a _).1 (Nat.le_refl _)) ((limbs_length b _).1 (Nat.le_refl _))

theorem dec_zero : dec 0 = ⟨#[48]⟩ := by
  unfold dec
  rw [dec_small (by omega)]; rfl
theorem dec_one : dec 1 = ⟨#[49]⟩ := by
  unfold dec
  rw [dec_small (by omega)]; rfl

theorem cutD (w : World) (n : Nat) (h : Num n) : GivesU 142 #[.string (dec n)] w n := by
  have := cut_any (dec n) w (by rw [lb_dec]; exact dec_digs n) (Nat.le_trans h (by decide))
  rw [lb_dec, dval_dec] at this
  exact this

set_option maxRecDepth 100000 in
set_option maxHeartbeats 4000000 in
theorem mul_any (w : World) (a b : Nat) (ha : Num a) (hb : Num b) (L : Laid w) :
    Gives Tryz.prog 119 #[.string (dec a), .string (dec b)] w (.string (dec (a * b))) := by
  unfold Gives
  have ha' : (dec a).size ≤ 1000000 := ha
  have hb' : (dec b).size ≤ 1000000 := hb
  by_cases hs : (dec a).size + (dec b).size ≤ 18
  · have h1 := (dec_small18 a).1 (by omega)
    have h2 := (dec_small18 b).1 (by omega)
    have hab : a * b < 1000000000000000000 := by
      have e1 := (dec_length a (Lib.decDigits a).length (dec_pos a)).1 (Nat.le_refl _)
      have e2 := (dec_length b (Lib.decDigits b).length (dec_pos b)).1 (Nat.le_refl _)
      rw [← dec_size] at e1 e2
      have e3 : a * b < 10 ^ ((dec a).size + (dec b).size) := by
        rw [Nat.pow_add]
        exact Nat.mul_lt_mul'' e1 e2
      have e4 : 10 ^ ((dec a).size + (dec b).size) ≤ 10 ^ 18 := Nat.pow_le_pow_right (by decide) hs
      exact Nat.lt_of_lt_of_le e3 e4
    have Hc1 := Lib.hid (both_any w a b (by omega) (by omega) L)
    rw [if_pos ⟨h1, h2⟩] at Hc1
    have Hc2 : Hid (∀ w', Below w.heap.size w w' → Gives Tryz.prog 122 #[.int .u64 (a * b : Nat)] w' (.string (dec (a * b)))) := fun w' hb' => of_any w' (a * b) (by omega) (L.below hb')
    have hwr : IntKind.u64.wrap ((a : Int) * (b : Int)) = ((a * b : Nat) : Int) := by rw [← Int.natCast_mul]; exact wrap_u _ (by omega)
    have hs' : ((dec a).size : Int) + (dec b).size ≤ 18 := by omega
    clear L
    generalize dec (a * b) = r at *
    generalize dec a = s at *
    generalize dec b = t at *
    generalize a * b = m at *
    go_enter Tryz.func119, Tryz.ntmps119
    go_wp2_with fail
    refine Calls.mono Hc1.out ?_
    rintro e w1 ⟨rfl, hb1⟩
    have Hb1 := Lib.hid hb1
    clear hb1
    go_wp2_with fail
    refine Calls.mono (Hc2.out w1 Hb1.out) ?_
    rintro e w2 ⟨rfl, hb2⟩
    have Hb2 := Lib.hid (Hb1.out.trans (hb2.mono Hb1.out.size))
    clear hb2 Hb1
    go_wp2
    go_ret
    exact ⟨rfl, Hb2.out⟩
  · have hs' : ¬ ((dec a).size : Int) + (dec b).size ≤ 18 := by omega
    have la := limbs_of_dec a 1000000 (by decide) ha
    have lb := limbs_of_dec b 1000000 (by decide) hb
    have Hc1 := Lib.hid (fun w' => cutD w' a ha)
    have Hc2 := Lib.hid (fun w' => cutD w' b hb)
    have Hlm : Hid ((limbs (a * b)).length ≤ 10000000) := by
      show _ ≤ _
      have := limbs_mul_le a b
      omega
    generalize dec a = s at *
    generalize dec b = t at *
    go_enter Tryz.func119, Tryz.ntmps119
    go_wp2_with fail
    refine Calls.mono (Hc1.out _) ?_
    rintro e w1 ⟨a1, c1, rfl, ho1, hb1⟩
    have Hb1 := Lib.hid hb1
    have Ho1 := Lib.hid ho1
    clear hb1 ho1
    go_wp2_with fail
    refine Calls.mono (Hc2.out _) ?_
    rintro e w2 ⟨a2, c2, rfl, ho2, hb2⟩
    have Hb2 := Lib.hid (Hb1.out.trans (hb2.mono Hb1.out.size))
    have Htm := Lib.hid (times_any w2 a1 a2 c1 c2 (limbs a) (limbs b) (Ho1.out.below hb2 (Nat.le_refl _)).reads ho2.reads (limbs_pcs a) (limbs_pcs b) (by omega) (by omega))
    rw [val_limbs, val_limbs] at Htm
    clear hb2 ho2 Ho1 Hb1 Hc1 Hc2
    go_wp2_with fail
    refine Calls.mono Htm.out ?_
    rintro e w3 ⟨a3, c3, rfl, ho3, hb3⟩
    have Hb3 := Lib.hid (Hb2.out.trans (hb3.mono Hb2.out.size))
    have Htx := Lib.hid (text_any w3 a3 c3 (a * b) ho3.reads Hlm.out)
    clear hb3 ho3 Hb2 Htm
    go_wp2_with fail
    refine Calls.mono Htx.out ?_
    rintro e w4 ⟨rfl, hb4⟩
    have Hb4 := Lib.hid (Hb3.out.trans (hb4.mono Hb3.out.size))
    clear hb4 Hb3
    go_wp2
    go_ret
    exact ⟨rfl, Hb4.out⟩

theorem of_regrown (w : World) (n : Nat) (hn : n < 18446744073709551616) (L : Laid w) :
    ∀ d os, Calls Tryz.prog 122 #[.int .u64 n] (Go.Sort.grow (redrawn w d) os) fun e w'' => e = .returned (.string (dec n)) ∧ ∃ p : Regrown, w'' = Go.Sort.grow (redrawn w p.d) p.os := fun d os =>
  Calls.regrown_of (of_any _ n hn (L.below (below_regrown w d os)))

theorem is_zero (b : Nat) : ((dec b).toList == [48]) = decide (b = 0) := by
  have h := same_dec b 0
  rw [dec_zero, toList_lb ⟨#[48]⟩] at h
  exact h
theorem is_one (b : Nat) : ((dec b).toList == [49]) = decide (b = 1) := by
  have h := same_dec b 1
  rw [dec_one, toList_lb ⟨#[49]⟩] at h
  exact h

end Go.Proofs.YtlomhfknmhaboaaGreatDoor

/- DivMod over decimal texts. -/
namespace Go.Proofs.YtlomhfknmhaboaaGreatDoor
open Go.RowKit

theorem limbs_one (b : Nat) (h : (limbs b).length = 1) : (limbs b).getD 0 0 = b ∧ b < 1000000000 ∧ 0 < b := by
  have h1 := (limbs_length b 1).1 (by omega)
  rw [Nat.pow_one] at h1
  have h0 : 0 < b := by
    rcases Nat.eq_zero_or_pos b with h2 | h2
    · subst h2; rw [limbs_zero] at h; simp at h
    · exact h2
  refine ⟨?_, h1, h0⟩
  rw [limbs_pos h0]
  simp
  exact h1

theorem limbs_len_mono {a b : Nat} (h : a ≤ b) : (limbs a).length ≤ (limbs b).length := by
  rw [limbs_length]
  exact Nat.lt_of_le_of_lt h ((limbs_length b _).1 (Nat.le_refl _))

set_option maxRecDepth 100000 in
set_option maxHeartbeats 4000000 in
theorem divmod_any (w : World) (a b : Nat) (ha : Num a) (hb : Num b) (L : Laid w) :
    Gives Tryz.prog 129 #[.string (dec a), .string (dec b)] w
      (if b = 0 then .tuple #[.string ⟨#[]⟩, .string ⟨#[]⟩, .int .i64 17] else .tuple #[.string (dec (a / b)), .string (dec (a % b)), .int .i64 0]) := by
  unfold Gives
  have ha' : (dec a).size ≤ 1000000 := ha
  have hb' : (dec b).size ≤ 1000000 := hb
  have hz := is_zero b
  by_cases h0 : b = 0
  · rw [if_pos h0]
    rw [decide_eq_true h0] at hz
    clear L
    generalize dec a = s at *
    generalize dec b = t at *
    go_enter Tryz.func129, Tryz.ntmps129
    go_wp2
    go_ret3
    exact ⟨rfl, Below.refl _ _⟩
  · rw [if_neg h0]
    rw [decide_eq_false h0] at hz
    have Hbo := Lib.hid (both_any w a b (by omega) (by omega) L)
    by_cases hs : a < 1000000000000000000 ∧ b < 1000000000000000000
    · rw [if_pos hs] at Hbo
      obtain ⟨hs1, hs2⟩ := hs
      have Hof : Hid (∀ w', Below w.heap.size w w' → ∀ n : Nat, n < 18446744073709551616 → ∀ d os, Calls Tryz.prog 122 #[.int .u64 n] (Go.Sort.grow (redrawn w' d) os) fun e w'' => e = .returned (.string (dec n)) ∧ ∃ p : Regrown, w'' = Go.Sort.grow (redrawn w' p.d) p.os) := fun w' hb' n hn => of_regrown w' n hn (L.below hb')
      have hd1 : a / b < 18446744073709551616 := Nat.lt_of_le_of_lt (Nat.div_le_self _ _) (by omega)
      have hm1 : a % b < 18446744073709551616 := Nat.lt_of_le_of_lt (Nat.mod_le _ _) (by omega)
      have hbz : ((b : Int) == 0) = false := by rw [beq_eq_false_iff_ne]; omega
      have htd : Int.tdiv (a : Int) (b : Int) = ((a / b : Nat) : Int) := by rw [← Int.ofNat_tdiv]
      have htm : Int.tmod (a : Int) (b : Int) = ((a % b : Nat) : Int) := by rw [← Int.ofNat_tmod]
      have hw1 := wrap_u (a / b) hd1
      have hw2 := wrap_u (a % b) hm1
      clear L
      generalize dec a = s at *
      generalize dec b = t at *
      generalize a / b = q at *
      generalize a % b = r at *
      go_enter Tryz.func129, Tryz.ntmps129
      go_wp2_with fail
      refine Calls.mono Hbo.out ?_
      rintro e w1 ⟨rfl, hb1⟩
      have Hb1 := Lib.hid hb1
      have hM1 := Hof.out w1 hb1 q hd1
      have hM2 := Hof.out w1 hb1 r hm1
      clear hb1 Hof Hbo
      go_wp2_with fail
      refine wp_region_quiet_below (by kernel_rfl) (by kernel_rfl) ?_
      repeat (first | go_big_quiet_step (first | with_reducible exact hM1 _ _ | with_reducible exact hM2 _ _) | quiet_step (first | with_reducible exact hM1 _ _ | with_reducible exact hM2 _ _))
      refine wpQuiet_nil ?_
      intro w2 hw2
      obtain ⟨⟨dq, osq⟩, rfl⟩ := hw2
      have Hb2 := Lib.hid (Hb1.out.trans ((below_regrown w1 dq osq).mono Hb1.out.size))
      generalize Go.Sort.grow (redrawn w1 dq) osq = w2 at *
      clear hM1 hM2 Hb1
      go_wp2
      go_ret3
      exact ⟨rfl, Hb2.out⟩
    · rw [if_neg hs] at Hbo
      have la := limbs_of_dec a 1000000 (by decide) ha
      have lb := limbs_of_dec b 1000000 (by decide) hb
      have HL := Lib.hid L
      have Hc1 := Lib.hid (fun w' => cutD w' a ha)
      have Hc2 := Lib.hid (fun w' => cutD w' b hb)
      have Hda := Lib.hid (show dec a = dec a from rfl)
      have hlq := limbs_len_mono (Nat.div_le_self a b)
      have hlr := limbs_len_mono (Nat.mod_le a b)
      clear L hs
      generalize hs : dec a = s at *
      have Hs := Lib.hid hs
      clear hs
      generalize dec b = t at *
      go_enter Tryz.func129, Tryz.ntmps129
      go_wp2_with fail
      refine Calls.mono Hbo.out ?_
      rintro e w0 ⟨rfl, hb0⟩
      have Hb0 := Lib.hid hb0
      clear hb0 Hbo
      go_wp2_with fail
      refine Calls.mono (Hc1.out _) ?_
      rintro e w1 ⟨a1, c1, rfl, ho1, hb1⟩
      have Hb1 := Lib.hid (Hb0.out.trans (hb1.mono Hb0.out.size))
      have Ho1 := Lib.hid ho1
      clear hb1 ho1
      go_wp2_with fail
      refine Calls.mono (Hc2.out _) ?_
      rintro e w2 ⟨a2, c2, rfl, ho2, hb2⟩
      have Hb2 := Lib.hid (Hb1.out.trans (hb2.mono Hb1.out.size))
      have Hr1 := Lib.hid (Ho1.out.below hb2 (Nat.le_refl _)).reads
      have Hr2 := Lib.hid ho2.reads
      have Hcm := Lib.hid (compare_any w2 a1 a2 c1 c2 a b Hr1.out Hr2.out (by omega) (by omega))
      clear hb2 ho2 Ho1 Hb1 Hc1 Hc2 Hb0
      by_cases hlt : a < b
      · have e1 : a / b = 0 := Nat.div_eq_of_lt hlt
        have e2 : a % b = a := Nat.mod_eq_of_lt hlt
        have Hq : Hid (dec (a / b) = ⟨#[48]⟩) := by show _ = _; rw [e1]; exact dec_zero
        have Hrr : Hid (dec (a % b) = s) := by show _ = _; rw [e2]; exact Hs.out
        have Hcv : Hid (cmpN a b = -1) := by show _ = _; unfold cmpN; rw [if_pos hlt]
        rw [Hcv.out] at Hcm
        clear e1 e2 Hr1 Hr2
        go_wp2_with fail
        refine Calls.mono Hcm.out ?_
        rintro e w3 ⟨rfl, hb3⟩
        have Hb3 := Lib.hid (Hb2.out.trans (hb3.mono Hb2.out.size))
        clear hb3 Hb2 Hcm
        go_wp2
        go_ret3
        exact ⟨by rw [Hq.out, Hrr.out]; rfl, Hb3.out⟩
      · have hcn : ¬ cmpN a b < 0 := by unfold cmpN; rw [if_neg hlt]; split <;> omega
        have hbp : 0 < b := by omega
        have hlab := limbs_len_mono (show b ≤ a by omega)
        clear Hs
        generalize cmpN a b = cn at *
        by_cases hl1 : (limbs b).length = 1
        · obtain ⟨g1, g2, g3⟩ := limbs_one b hl1
          obtain ⟨b2, o2, rfl, hb2, hc2⟩ := Hr2.out.open (by omega)
          have cx := hc2 0 (by omega)
          rw [g1] at cx
          have Hcx := Lib.hid cx
          have Hl1 := Lib.hid hl1
          have hle1 : (limbs b).length ≤ 1 := by omega
          clear hc2 cx g1 hl1
          go_wp2_with fail
          refine Calls.mono Hcm.out ?_
          rintro e w3 ⟨rfl, hb3⟩
          have Hb3 := Lib.hid (Hb2.out.trans (hb3.mono Hb2.out.size))
          have cx := Hcx.out
          rw [← hb3.cell (p := ⟨b2, o2 + 0, none⟩) hb2] at cx
          have Hsm := Lib.hid (small_any w3 a1 c1 (limbs a) b (Hr1.out.below hb3 (Nat.le_refl _)) (limbs_pcs a) (by omega) g3 g2)
          rw [val_limbs] at Hsm
          rw [Nat.add_zero] at cx
          clear hb3 Hb2 Hcm Hcx Hr1 Hr2 hz
          rw [Hl1.out]
          go_wp2_with fail
          refine Calls.mono Hsm.out ?_
          rintro e w4 ⟨a4, c4, rfl, ho4, hb4⟩
          have Hb4 := Lib.hid (Hb3.out.trans (hb4.mono Hb3.out.size))
          have Htx := Lib.hid (text_any w4 a4 c4 (a / b) ho4.reads (by omega))
          clear hb4 ho4 Hb3 Hsm
          go_wp2_with fail
          refine Calls.mono Htx.out ?_
          rintro e w5 ⟨rfl, hb5⟩
          have Hb5 := Lib.hid (Hb4.out.trans (hb5.mono Hb4.out.size))
          have Hof := Lib.hid (of_any w5 (a % b) (Nat.lt_trans (Nat.mod_lt _ g3) (by omega)) (HL.out.below Hb5.out))
          clear hb5 Hb4 Htx
          go_wp2_with fail
          refine Calls.mono Hof.out ?_
          rintro e w6 ⟨rfl, hb6⟩
          have Hb6 := Lib.hid (Hb5.out.trans (hb6.mono Hb5.out.size))
          clear hb6 Hb5 Hof
          go_wp2
          go_ret3
          exact ⟨rfl, Hb6.out⟩
        · have hl2 : 2 ≤ (limbs b).length := by
            have : 0 < (limbs b).length := by rw [limbs_pos hbp]; simp
            omega
          have hl1' : (((limbs b).length : Int) == 1) = false := by rw [beq_eq_false_iff_ne]; omega
          go_wp2_with fail
          refine Calls.mono Hcm.out ?_
          rintro e w3 ⟨rfl, hb3⟩
          have Hb3 := Lib.hid (Hb2.out.trans (hb3.mono Hb2.out.size))
          have Hdv := Lib.hid (divide_any w3 a1 a2 c1 c2 a b (Hr1.out.below hb3 (Nat.le_refl _)) (Hr2.out.below hb3 (Nat.le_refl _)) (by omega) hl2 hlab)
          clear hb3 Hb2 Hcm Hr1 Hr2
          go_wp2_with fail
          refine Calls.mono Hdv.out ?_
          rintro e w4 ⟨a4, c4, a5, c5, rfl, ho4, ho5, hb4⟩
          have Hb4 := Lib.hid (Hb3.out.trans (hb4.mono Hb3.out.size))
          have Ho5 := Lib.hid ho5
          have Htx := Lib.hid (text_any w4 a4 c4 (a / b) ho4.reads (by omega))
          clear hb4 ho4 ho5 Hb3 Hdv
          go_wp2_with fail
          refine Calls.mono Htx.out ?_
          rintro e w5 ⟨rfl, hb5⟩
          have Hb5 := Lib.hid (Hb4.out.trans (hb5.mono Hb4.out.size))
          have Htx2 := Lib.hid (text_any w5 a5 c5 (a % b) (Ho5.out.below hb5 (Nat.le_refl _)).reads (by omega))
          clear hb5 Hb4 Htx Ho5
          go_wp2_with fail
          refine Calls.mono Htx2.out ?_
          rintro e w6 ⟨rfl, hb6⟩
          have Hb6 := Lib.hid (Hb5.out.trans (hb6.mono Hb5.out.size))
          clear hb6 Hb5 Htx2
          go_wp2
          go_ret3
          exact ⟨rfl, Hb6.out⟩

end Go.Proofs.YtlomhfknmhaboaaGreatDoor

/- Gcd and Lcm over decimal texts. -/
namespace Go.Proofs.YtlomhfknmhaboaaGreatDoor
open Go.RowKit

/-- The number that a text spells. -/
def numOf : Value → Nat
  | .string s => dval (lb s)
  | _ => 0

theorem numOf_dec (n : Nat) : numOf (.string (dec n)) = n := by
  show dval (lb (dec n)) = n
  rw [lb_dec, dval_dec]

theorem gcd_step (x y : Nat) : Nat.gcd y (x % y) = Nat.gcd x y := by
  rw [Nat.gcd_comm y, ← Nat.gcd_rec, Nat.gcd_comm]

set_option maxRecDepth 100000 in
set_option maxHeartbeats 4000000 in
theorem gcd_any (w : World) (a b : Nat) (ha : Num a) (hb : Num b) (L : Laid w) :
    Gives Tryz.prog 99 #[.string (dec a), .string (dec b)] w (.string (dec (Nat.gcd a b))) := by
  unfold Gives
  have HL := Lib.hid L
  clear L
  go_enter Tryz.func99, Tryz.ntmps99
  go_wp2_with fail
  go_loopw [0, 1] (fun p q wr => ∃ x y : Nat, Hid (Num x) ∧ Hid (Num y) ∧ p = .string (dec x) ∧ q = .string (dec y) ∧ Hid (Nat.gcd x y = Nat.gcd a b) ∧ Hid (Below w.heap.size w wr)) (fun _ q _ => numOf q)
  case atStart => exact ⟨a, b, ha, hb, rfl, rfl, rfl, Below.refl _ _⟩
  case round =>
    obtain ⟨x, y, Hx, Hy, rfl, rfl, Hg, Hb⟩ := hrel
    have hz := is_zero y
    by_cases h0 : y = 0
    · rw [decide_eq_true h0] at hz
      have Hv : Hid (x = Nat.gcd a b) := by
        show _ = _
        rw [← Hg.out, h0, Nat.gcd_zero_right]
      clear h0
      go_wp2
      go_ret
      exact ⟨by rw [← Hv.out]; rfl, Hb.out⟩
    · rw [decide_eq_false h0] at hz
      have Hdm := Lib.hid (divmod_any wr x y Hx.out Hy.out (HL.out.below Hb.out))
      rw [if_neg h0] at Hdm
      have Hlt : Hid (x % y < y) := Nat.mod_lt _ (by omega)
      have Hg2 : Hid (Nat.gcd y (x % y) = Nat.gcd a b) := (gcd_step x y).trans Hg.out
      clear h0
      go_wp2_with fail
      refine Calls.mono Hdm.out ?_
      rintro e w1 ⟨rfl, hb1⟩
      have Hb1 := Lib.hid (Hb.out.trans (hb1.mono Hb.out.size))
      clear hb1 Hb Hdm
      go_wp2
      go_roundw
      case rel => exact ⟨y, x % y, Hy, Hy.out.le (Nat.le_of_lt Hlt.out), rfl, rfl, Hg2, Hb1⟩
      case measure =>
        show numOf (.string (dec (x % y))) < numOf (.string (dec y))
        rw [numOf_dec, numOf_dec]; exact Hlt.out

theorem lcm_quot (a b : Nat) (ha : a ≠ 0) : a / Nat.gcd a b * b = Nat.lcm a b := by
  have hg : 0 < Nat.gcd a b := Nat.gcd_pos_of_pos_left _ (by omega)
  obtain ⟨k, hk⟩ := Nat.gcd_dvd_left a b
  unfold Nat.lcm
  generalize Nat.gcd a b = g at *
  subst hk
  rw [Nat.mul_div_cancel_left _ hg, Nat.mul_assoc, Nat.mul_div_cancel_left _ hg]

set_option maxRecDepth 100000 in
set_option maxHeartbeats 4000000 in
theorem lcm_any (w : World) (a b : Nat) (ha : Num a) (hb : Num b) (L : Laid w) :
    Gives Tryz.prog 133 #[.string (dec a), .string (dec b)] w (.string (dec (Nat.lcm a b))) := by
  unfold Gives
  have hz1 := is_zero a
  have hz2 := is_zero b
  by_cases h1 : a = 0
  · rw [decide_eq_true h1] at hz1
    have Hv : Hid (dec (Nat.lcm a b) = ⟨#[48]⟩) := by
      show _ = _
      rw [h1, Nat.lcm_zero_left]; exact dec_zero
    clear h1 hz2
    go_enter Tryz.func133, Tryz.ntmps133
    go_wp2
    go_ret
    exact ⟨by rw [Hv.out]; rfl, Below.refl _ _⟩
  · rw [decide_eq_false h1] at hz1
    by_cases h2 : b = 0
    · rw [decide_eq_true h2] at hz2
      have Hv : Hid (dec (Nat.lcm a b) = ⟨#[48]⟩) := by
        show _ = _
        rw [h2, Nat.lcm_zero_right]; exact dec_zero
      clear h1 h2
      go_enter Tryz.func133, Tryz.ntmps133
      go_wp2
      go_ret
      exact ⟨by rw [Hv.out]; rfl, Below.refl _ _⟩
    · rw [decide_eq_false h2] at hz2
      have HL := Lib.hid L
      have Hgc := Lib.hid (gcd_any w a b ha hb L)
      have hgp : 0 < Nat.gcd a b := Nat.gcd_pos_of_pos_left _ (by omega)
      have hgl : Num (Nat.gcd a b) := ha.le (Nat.gcd_le_left _ (by omega))
      have Hdm : Hid (∀ w', Below w.heap.size w w' → Gives Tryz.prog 129 #[.string (dec a), .string (dec (Nat.gcd a b))] w' (.tuple #[.string (dec (a / Nat.gcd a b)), .string (dec (a % Nat.gcd a b)), .int .i64 0])) := fun w' hb' => by
        have := divmod_any w' a (Nat.gcd a b) ha hgl (HL.out.below hb')
        rw [if_neg (by omega)] at this
        exact this
      have Hml : Hid (∀ w', Below w.heap.size w w' → Gives Tryz.prog 119 #[.string (dec (a / Nat.gcd a b)), .string (dec b)] w' (.string (dec (Nat.lcm a b)))) := fun w' hb' => by
        have := mul_any w' (a / Nat.gcd a b) b (ha.le (Nat.div_le_self _ _)) hb (HL.out.below hb')
        rw [lcm_quot a b h1] at this
        exact this
      clear h1 h2 L
      go_enter Tryz.func133, Tryz.ntmps133
      go_wp2_with fail
      refine Calls.mono Hgc.out ?_
      rintro e w1 ⟨rfl, hb1⟩
      have Hb1 := Lib.hid hb1
      clear hb1 Hgc
      go_wp2_with fail
      refine Calls.mono (Hdm.out w1 Hb1.out) ?_
      rintro e w2 ⟨rfl, hb2⟩
      have Hb2 := Lib.hid (Hb1.out.trans (hb2.mono Hb1.out.size))
      clear hb2 Hb1 Hdm
      go_wp2_with fail
      refine Calls.mono (Hml.out w2 Hb2.out) ?_
      rintro e w3 ⟨rfl, hb3⟩
      have Hb3 := Lib.hid (Hb2.out.trans (hb3.mono Hb2.out.size))
      clear hb3 Hb2 Hml
      go_wp2
      go_ret
      exact ⟨rfl, Hb3.out⟩

end Go.Proofs.YtlomhfknmhaboaaGreatDoor

/- 'append(q, make([]T, m)...)': the model takes the count. -/
namespace Go.Proofs.YtlomhfknmhaboaaGreatDoor
open Go.RowKit

theorem zeroCells_one (x : Value) (m : Nat) : Builtin.zeroCells #[x] m = (List.replicate m x).toArray := by
  unfold Builtin.zeroCells
  apply Array.ext
  · simp
  · intro i h1 h2
    simp [Nat.mod_one]

set_option maxRecDepth 100000 in
theorem run_app_zeros {P : Program} (w : World) {t ti ty e : TypeId} {z : Value} {bytes : Nat} (E : ElemOf P t e z 1 bytes) (hc : z.cells = #[z]) (hone : z.oneCell' = true) (hti : P.underlying ti = some (.int .i64))
    {base n : Nat} {v : Value} {xs : List Value} (m : Nat) (hown : w.ownsRow base e 1 v n xs) (h63 : n + m ≤ 4611686018427387904) (hbytes : (n + m) * bytes ≤ 140737488355328) (hbase : base ≤ w.heap.size) :
    ∃ v' w', (Builtin.append_ #[t, ti] ty #[v, .int .i64 m]).run P w = .ok v' w' ∧ w'.ownsRow base e 1 v' (n + m) (xs ++ List.replicate m z) ∧ w.grownBy w' v.ownBlock ∧ (v'.ownBlock = v.ownBlock ∨ v'.ownBlock = some w.heap.size) := by
  obtain ⟨i, hi, hz, hsize, hby⟩ := E.info
  have ht := E.ht
  have hsm : m * bytes ≤ 140737488355328 := Nat.le_trans (Nat.mul_le_mul_right _ (by omega)) hbytes
  have hwr : IntKind.i64.wrap (m : Int) = m := IntWalk.i64_in _ (by omega)
  have hn0 : ¬ ((m : Int) < 0) := by omega
  have hbig : ¬ (281474976710656 < (m : Int) * (bytes : Int)) := by
    have : ((m * bytes : Nat) : Int) ≤ 140737488355328 := Int.ofNat_le.2 hsm
    rw [Int.natCast_mul] at this; omega
  have hlen : (xs ++ List.replicate m z).length = (n + m) * 1 := by rw [List.length_append, hown.1, List.length_replicate]; omega
  by_cases hm : m = 0
  · subst hm
    have hw0 : IntKind.i64.wrap 0 = 0 := IntWalk.i64_in _ (by omega)
    refine ⟨v, w, ?_, by simpa using hown, ⟨rfl, rfl, rfl, Nat.le_refl _, fun _ _ _ => rfl⟩, .inl rfl⟩
    rcases hown.2 with ⟨rfl, rfl⟩ | ⟨g, cap, cur, rfl, hbg, hg, hnc, hcm, hcs, htake⟩
    · simp [Builtin.append_, run_underlying ht, run_underlying hti, sizeOf, typeInfo, hi, asInt, asIntOf, hw0, Builtin.firstCells]
    · simp [Builtin.append_, run_underlying ht, run_underlying hti, sizeOf, typeInfo, hi, asInt, asIntOf, hw0, hnc, storeCells, Addr.add]
  · have hm1 : m ≠ 0 := hm
    have grown : ∀ (old : Nat), old < n + m → ∀ (row : Option Nat),
        (w.drew.alloc (.cells (xs.toArray ++ (List.replicate m z).toArray ++ Builtin.zeroCells z.cells (grownCap w (n + m) old e - (n + m))) e)).ownsRow base e 1
          (.slice (some ⟨w.heap.size, 0, none⟩) (n + m) (grownCap w (n + m) old e)) (n + m) (xs ++ List.replicate m z) ∧
        w.grownBy (w.drew.alloc (.cells (xs.toArray ++ (List.replicate m z).toArray ++ Builtin.zeroCells z.cells (grownCap w (n + m) old e - (n + m))) e)) row := by
      intro old ho row
      have hge := grownCap_ge w (n + m) old e
      have hcm : grownCap w (n + m) old e ≤ maxLen := grownCap_le_maxLen w (n + m) old e (by unfold maxLen; omega)
      refine ⟨⟨hlen, .inr ⟨w.heap.size, _, _, rfl, hbase, Go.heap_alloc_new w.drew _, hge, hcm, ?_, ?_⟩⟩, ⟨rfl, rfl, rfl, by simp, fun k hk _ => Go.heap_alloc_old w.drew _ hk⟩⟩
      · simp only [Array.size_append, List.size_toArray, size_zeroCells, E.hzs, hown.1, List.length_replicate]
        omega
      · simp only [Array.toList_append, List.append_assoc]
        rw [← List.append_assoc, ← hlen]
        exact List.take_left
    rcases hown.2 with ⟨rfl, rfl⟩ | ⟨g, cap, cur, rfl, hbg, hg, hnc, hcm, hcs, htake⟩
    · have hx : xs = [] := List.eq_nil_of_length_eq_zero (by simpa using hown.1)
      subst hx
      have hgr := grown 0 (by omega) (Value.ownBlock (.slice none 0 0))
      have h48' : ¬ (281474976710656 < Builtin.nextslicecap m 0 * bytes) := by rw [nextslicecap_zero (by omega)]; omega
      have h63' : ¬ (9223372036854775807 < (m : Int)) := by omega
      refine ⟨_, _, ?_, hgr.1, hgr.2, .inr rfl⟩
      simp [Builtin.append_, run_underlying ht, run_underlying hti, sizeOf, typeInfo, hi, asInt, asIntOf, hwr, hn0, hbig, hby, hsize, hm1, zeroValue, hz, hc, zeroCells_one, Question.forced, run_firstCells_none, newRow, grownCap, h63', h48']
    · by_cases hroom : n + m ≤ cap
      · have hst := run_storeCells_at P g (n * 1) e (List.replicate m z) 0 cur w hg (by simp; omega) (fun u hu => by rw [List.eq_of_mem_replicate hu]; exact hone)
        refine ⟨.slice (some ⟨g, 0, none⟩) (n + m) cap, w.setRow g (cur.toList.take (n * 1) ++ List.replicate m z ++ cur.toList.drop (n * 1 + (List.replicate m z).length)).toArray, ?_, ⟨hlen, .inr ⟨g, cap, _, rfl, hbg, setRow_heap w g cur _ e _ hg, hroom, hcm, ?_, ?_⟩⟩, ⟨rfl, rfl, rfl, by simp, fun k _ hk => setRow_other w g k _ (fun e => hk (by simp [Value.ownBlock, e]))⟩, .inl rfl⟩
        · simp only [Nat.add_zero] at hst
          simp [Builtin.append_, run_underlying ht, run_underlying hti, sizeOf, typeInfo, hi, asInt, asIntOf, hwr, hn0, hbig, hby, hsize, hm1, zeroValue, hz, hc, zeroCells_one, hroom, Addr.add_lit]
          simp only [Nat.mul_one, List.length_replicate] at hst
          rw [hst]
          simp
        · simp only [List.size_toArray, List.length_append, List.length_take, List.length_drop, Array.length_toList, List.length_replicate]
          omega
        · rw [htake, ← hlen]
          exact List.take_left
      · have holds : ∀ j u, xs[j]? = some u → w.cell? ((⟨g, 0, none⟩ : Addr).add j) = some u := hown.cells (g := g) rfl
        have hgr := grown cap (by omega) (Value.ownBlock (.slice (some ⟨g, 0, none⟩) n cap))
        have h48' : ¬ (281474976710656 < Builtin.nextslicecap (n + m) cap * bytes) := by have := growslice_fits (need := n + m) (old := cap) (by omega) hbytes; omega
        have h63' : ¬ (9223372036854775807 < ((n : Int) + (m : Int))) := by omega
        have hfo := run_firstCells_some (P := P) w.drew 1 n ⟨g, 0, none⟩ n cap xs hown.1 (by simpa using holds)
        refine ⟨_, _, ?_, hgr.1, hgr.2, .inr rfl⟩
        simp [Builtin.append_, run_underlying ht, run_underlying hti, sizeOf, typeInfo, hi, asInt, asIntOf, hwr, hn0, hbig, hby, hsize, hm1, zeroValue, hz, hc, zeroCells_one, Question.forced, newRow, grownCap, hroom, hfo, h63', h48']

theorem wpList_append_zeros {P : Program} {w : World} {ops : Array Oper} {rest : List Oper} {o : Oper} {a : Act} {Q : Exit → Act → World → Prop} (hgd : o.guard = none) (s x : Operand) (t ti : TypeId)
    (ho : o.op = .call { callee := .builtin .append, args := #[s, x], argTypes := #[t, ti] })
    {e : TypeId} {z : Value} {bytes : Nat} (E : ElemOf P t e z 1 bytes) (hc : z.cells = #[z]) (hone : z.oneCell' = true) (hti : P.underlying ti = some (.int .i64))
    (v : Value) (m : Nat) (hs : a.eval s = v) (hx : a.eval x = .int .i64 m)
    {base n : Nat} {xs : List Value} (hown : w.ownsRow base e 1 v n xs) (hbase : base ≤ w.heap.size) (h63 : n + m ≤ 4611686018427387904) (hbytes : (n + m) * bytes ≤ 140737488355328)
    (h : ∀ v' w', w'.ownsRow base e 1 v' (n + m) (xs ++ List.replicate m z) → w.grownBy w' v.ownBlock → (v'.ownBlock = v.ownBlock ∨ v'.ownBlock = some w.heap.size) → wpList P ops Q rest (a.put o.dst v') w') :
    wpList P ops Q (o :: rest) a w := by
  refine wpList_plain hgd fun K hK => ?_
  obtain ⟨v', w', hr, h2, h3, h4⟩ := run_app_zeros (P := P) w (ty := o.type) E hc hone hti m hown h63 hbytes hbase
  unfold Oper.wp execOp
  simp only [ho, resolve, invoke, builtin, Sem.run_bind, Sem.run_pure, Result.andThen_ok, List.map_toArray, List.map_cons, List.map_nil, hs, hx, hr]
  exact hK _ _ (h v' w' h2 h3 h4)

theorem wpList_append_one {P : Program} {W : World} {ops : Array Oper} {rest : List Oper} {o : Oper} {a : Act} {Q : Exit → Act → World → Prop} (hgd : o.guard = none) (s x : Operand) (t : TypeId)
    (ho : o.op = .call { callee := .builtin .append, args := #[s, x], argTypes := #[t, t] })
    {e : TypeId} {z : Value} {bytes : Nat} (E : ElemOf P t e z 1 bytes)
    (v u : Value) (hs : a.eval s = v) (hx : a.eval x = .slice (some ⟨W.heap.size, 0, none⟩) 1 1)
    {base n : Nat} {xs : List Value} (hown : W.ownsRow base e 1 v n xs) (hbase : base ≤ W.heap.size)
    (h1 : u.oneCell' = true) (h63 : n + 1 ≤ 4611686018427387904) (hbytes : (n + 1) * bytes ≤ 140737488355328)
    (h : ∀ v' w', w'.ownsRow base e 1 v' (n + 1) (xs ++ [u]) → (W.alloc (.cells #[u] e)).grownBy w' v.ownBlock → (v'.ownBlock = v.ownBlock ∨ v'.ownBlock = some (W.alloc (.cells #[u] e)).heap.size) → wpList P ops Q rest (a.put o.dst v') w') :
    wpList P ops Q (o :: rest) a (W.alloc (.cells #[u] e)) := by
  obtain ⟨i, hi, hz, hsize, hby⟩ := E.info
  exact wpList_append_own_at _ hgd s x t ho base e i z 1 bytes E.ht hi hz hsize hby E.hzs E.pos v n xs hs (hown.alloc _) ⟨W.heap.size, 0, none⟩ 1 1 [u] hx rfl (cell_one_new W u e) (fun y hy => by obtain rfl := List.mem_singleton.1 hy; exact h1) (by unfold maxLen; omega) hbytes (by simp; omega) fun v' w' h2 h3 _ h5 => h v' w' h2 h3 h5

end Go.Proofs.YtlomhfknmhaboaaGreatDoor

/- Add and Sub over decimal texts. (Printed by wip/tools/gen_decn.py.) -/
namespace Go.Proofs.YtlomhfknmhaboaaGreatDoor
open Go.RowKit

/-- Two rows of pieces that the call owns, apart from each other. -/
structure Two (B : Nat) (a1 : Option Addr) (c1 : Nat) (L1 : List Nat) (a2 : Option Addr) (c2 : Nat) (L2 : List Nat) (w wr : World) : Prop where
  o1 : OwnU wr B a1 c1 L1
  o2 : OwnU wr B a2 c2 L2
  ap : ∀ k, (Value.slice a1 L1.length c1).ownBlock = some k → (Value.slice a2 L2.length c2).ownBlock ≠ some k
  bel : Below B w wr
  siz : B ≤ wr.heap.size

theorem Two.swap {B : Nat} {a1 : Option Addr} {c1 : Nat} {L1 : List Nat} {a2 : Option Addr} {c2 : Nat} {L2 : List Nat} {w wr : World} (h : Two B a1 c1 L1 a2 c2 L2 w wr) : Two B a2 c2 L2 a1 c1 L1 w wr :=
  ⟨h.o2, h.o1, fun k h1 h2 => h.ap k h2 h1, h.bel, h.siz⟩

theorem Two.next {B : Nat} {a1 : Option Addr} {c1 : Nat} {L1 : List Nat} {a2 : Option Addr} {c2 : Nat} {L2 : List Nat} {w wr w' : World} (h : Two B a1 c1 L1 a2 c2 L2 w wr) (hb : Below wr.heap.size wr w') : Two B a1 c1 L1 a2 c2 L2 w w' :=
  ⟨h.o1.below hb (Nat.le_refl _), h.o2.below hb (Nat.le_refl _), h.ap, h.bel.trans (hb.mono h.siz), Nat.le_trans h.siz hb.size⟩

theorem Two.grow {B : Nat} {a1 : Option Addr} {c1 : Nat} {L1 : List Nat} {a2 : Option Addr} {c2 : Nat} {L2 : List Nat} {w wr w' : World} (h : Two B a1 c1 L1 a2 c2 L2 w wr)
    {v' : Value} {n : Nat} {L' : List Nat} (hn : L'.length = n) (own' : w'.ownsRow B 112 1 v' n (u64s L')) (hg : wr.grownBy w' (Value.slice a1 L1.length c1).ownBlock)
    (hat : v'.ownBlock = (Value.slice a1 L1.length c1).ownBlock ∨ v'.ownBlock = some wr.heap.size) :
    ∃ a' c', v' = .slice a' n c' ∧ Two B a' c' L' a2 c2 L2 w w' := by
  obtain ⟨a', c', rfl⟩ := own_form own'
  refine ⟨a', c', rfl, ?_, ?_, ?_, ?_, ?_⟩
  · unfold OwnU; rw [hn]; exact own'
  · refine World.ownsRow.kept h.o2 hg ?_
    cases hv : (Value.slice a1 L1.length c1).ownBlock with
    | none => cases hv2 : (Value.slice a2 L2.length c2).ownBlock <;> simp
    | some k => exact .inr (h.ap k hv)
  · intro k hk
    rw [hn] at hk
    rcases hat with e | e
    · exact h.ap k (by rw [← e]; exact hk)
    · intro h2
      have h3 := (World.ownsRow.lt h.o2 k h2).2
      rw [e] at hk
      injection hk with hk
      omega
  · exact h.bel.grown hg h.siz (fun k hk => (World.ownsRow.lt h.o1 k hk).1)
  · exact Nat.le_trans h.siz hg.size

theorem OwnU.mono {w : World} {B B' : Nat} {a : Option Addr} {c : Nat} {l : List Nat} (h : OwnU w B a c l) (hB : B' ≤ B) : OwnU w B' a c l :=
  ⟨h.1, h.2.imp id fun ⟨g, cap, cur, h1, h2, h3⟩ => ⟨g, cap, cur, h1, Nat.le_trans hB h2, h3⟩⟩

/-- Two cuts, one behind the other. -/
theorem two_cuts {w0 w w1 w2 : World} {a1 : Option Addr} {c1 : Nat} {L1 : List Nat} {a2 : Option Addr} {c2 : Nat} {L2 : List Nat} (hb0 : Below w0.heap.size w0 w) (h1 : OwnU w1 w.heap.size a1 c1 L1) (hb1 : Below w.heap.size w w1) (h2 : OwnU w2 w1.heap.size a2 c2 L2) (hb2 : Below w1.heap.size w1 w2) :
    Two w0.heap.size a1 c1 L1 a2 c2 L2 w0 w2 := by
  have s1 := hb0.size
  have s2 := hb1.size
  have s3 := hb2.size
  refine ⟨(h1.below hb2 (Nat.le_refl _)).mono s1, h2.mono (Nat.le_trans s1 s2), ?_, hb0.trans ((hb1.mono s1).trans (hb2.mono (Nat.le_trans s1 s2))), by omega⟩
  intro k hk hk2
  have e1 := (World.ownsRow.lt h1 k hk).2
  have e2 := (World.ownsRow.lt h2 k hk2).1
  omega

theorem u64s_zeros (k : Nat) : u64s (List.replicate k 0) = List.replicate k (.int .u64 0) := by
  unfold u64s; rw [List.map_replicate]; rfl

theorem val_pad (l : List Nat) (k : Nat) : val (l ++ List.replicate k 0) = val l := by
  rw [val_append, val_zeros, Nat.mul_zero, Nat.add_zero]

theorem add_room {x y l : Nat} (hx : x < 1000000000 ^ l) (hy : y < 1000000000 ^ l) : x + y < 1000000000 ^ (l + 1) := by
  rw [Nat.pow_succ]; omega

theorem trim_text (w : World) (B a c n : Nat) (M : List Nat) (ho : OwnU w B (some ⟨a, 0, none⟩) c M) (hp : Pcs M) (hv : val M = n) (hl : M.length ≤ 10000000) :
    Gives Tryz.prog 158 #[.slice (some ⟨a, 0, none⟩) M.length c] w (.slice (some ⟨a, 0, none⟩) (limbs n).length c) ∧
    OwnU w B (some ⟨a, 0, none⟩) c (limbs n) ∧ (limbs n).length ≤ 10000000 := by
  subst hv
  have hle := limbs_len_le M hp
  have hpre := limbs_prefix M hp
  refine ⟨trim_any w (some ⟨a, 0, none⟩) c M ho.reads hp (by omega) ho.cap, ?_, by omega⟩
  have := ho.cut (limbs (val M)).length hle
  rw [hpre] at this
  exact this

theorem elU' : ElemOf Tryz.prog 178 112 (.int .u64 0) 1 8 := elU

set_option maxRecDepth 100000 in
set_option maxHeartbeats 8000000 in
theorem add_any (w : World) (a b : Nat) (ha : Num a) (hb : Num b) (L : Laid w) :
    Gives Tryz.prog 131 #[.string (dec a), .string (dec b)] w (.string (dec (a + b))) := by
  unfold Gives
  have ha' : (dec a).size ≤ 1000000 := ha
  have hb' : (dec b).size ≤ 1000000 := hb
  have Hbo := Lib.hid (both_any w a b (by omega) (by omega) L)
  by_cases hs : a < 1000000000000000000 ∧ b < 1000000000000000000
  · rw [if_pos hs] at Hbo
    obtain ⟨hs1, hs2⟩ := hs
    have hsum : a + b < 18446744073709551616 := by omega
    have Hof : Hid (∀ w', Below w.heap.size w w' → Gives Tryz.prog 122 #[.int .u64 (a + b : Nat)] w' (.string (dec (a + b)))) := fun w' hb' => of_any w' (a + b) hsum (L.below hb')
    have hw1 := wrap_u (a + b) hsum
    rw [Int.natCast_add] at hw1 Hof
    clear L
    generalize dec a = s at *
    generalize dec b = t at *
    go_enter Tryz.func131, Tryz.ntmps131
    go_wp2_with fail
    refine Calls.mono Hbo.out ?_
    rintro e w1 ⟨rfl, hb1⟩
    have Hb1 := Lib.hid hb1
    clear hb1 Hbo
    go_wp2_with fail
    refine Calls.mono (Hof.out w1 Hb1.out) ?_
    rintro e w2 ⟨rfl, hb2⟩
    have Hb2 := Lib.hid (Hb1.out.trans (hb2.mono Hb1.out.size))
    clear hb2 Hb1 Hof
    go_wp2
    go_ret
    exact ⟨rfl, Hb2.out⟩
  · rw [if_neg hs] at Hbo
    have la := limbs_of_dec a 1000000 (by decide) ha
    have lb := limbs_of_dec b 1000000 (by decide) hb
    have Hc1 := Lib.hid (fun w' => cutD w' a ha)
    have Hc2 := Lib.hid (fun w' => cutD w' b hb)
    clear L hs
    generalize dec a = s at *
    generalize dec b = t at *
    go_enter Tryz.func131, Tryz.ntmps131
    go_wp2_with fail
    refine Calls.mono Hbo.out ?_
    rintro e w0 ⟨rfl, hb0⟩
    have Hb0 := Lib.hid hb0
    clear hb0 Hbo
    go_wp2_with fail
    refine Calls.mono (Hc1.out _) ?_
    rintro e w1 ⟨a1, c1, rfl, ho1, hb1⟩
    have Ho1 := Lib.hid ho1
    have Hb1 := Lib.hid hb1
    clear hb1 ho1
    go_wp2_with fail
    refine Calls.mono (Hc2.out _) ?_
    rintro e w2 ⟨a2, c2, rfl, ho2, hb2⟩
    have HT := Lib.hid (two_cuts Hb0.out Ho1.out Hb1.out ho2 hb2)
    clear ho2 hb2 Ho1 Hb1 Hc1 Hc2 Hb0
    obtain ⟨l1, hl1⟩ : ∃ l, (limbs a).length = l := ⟨_, rfl⟩
    obtain ⟨l2, hl2⟩ : ∃ l, (limbs b).length = l := ⟨_, rfl⟩
    rw [hl1] at la ⊢
    rw [hl2] at lb ⊢
    have Hl1 := Lib.hid hl1
    have Hl2 := Lib.hid hl2
    clear hl1 hl2
    by_cases hlen : l1 < l2
    · have hlen' : (l1 : Int) < (l2 : Int) := by omega
      obtain ⟨k, hk⟩ : ∃ k, l2 - l1 = k := ⟨_, rfl⟩
      have hk1 : l1 + k ≤ l2 := by omega
      have hk2 : l2 ≤ l1 + k := by omega
      have hki : (l2 : Int) + 1 - 1 - l1 = (k : Int) := by omega
      have Hki := Lib.hid hki
      clear hk hki
      replace HT := Lib.hid HT.out.swap
      have HX : Hid (a + b = b + a) := Nat.add_comm _ _
      have Hrow : Hid (w2.ownsRow w.heap.size 112 1 (.slice a2 l2 c2) l2 (u64s (limbs b))) := by
        have := HT.out.o1
        unfold OwnU at this
        rw [Hl2.out] at this
        exact this
      go_wp2_with (at_builtin; refine wpList_append_one rfl (.tmp 33) (.tmp 34) 178 rfl elU' _ (.int .u64 0) rfl rfl Hrow.out HT.out.siz rfl (by omega) (by omega) ?_)
      intro v' w3 hown3 hg3 hat3
      have HT2 := Lib.hid (HT.out.next ((Below.refl _ _).alloc (Nat.le_refl _) (.cells #[.int .u64 0] 112)))
      have hlp1 : (limbs b ++ [0]).length = l2 + 1 := by rw [List.length_append, Hl2.out]; rfl
      obtain ⟨a3, c3, rfl, hT3⟩ := HT2.out.grow (v' := v') (L' := limbs b ++ [0]) hlp1 (by rw [u64s_append]; exact hown3) (by rw [Hl2.out]; exact hg3) (by rw [Hl2.out, show (w2.alloc (.cells #[.int .u64 0] 112)).heap.size = w2.heap.size + 1 by simp]; exact hat3)
      have HT3 := Lib.hid hT3.swap
      have Hlp1 := Lib.hid hlp1
      clear hown3 hg3 hat3 HT2 HT Hrow hT3 hlp1
      have Hrow2 : Hid (w3.ownsRow w.heap.size 112 1 (.slice a1 l1 c1) l1 (u64s (limbs a))) := by
        have := HT3.out.o1
        unfold OwnU at this
        rw [Hl1.out] at this
        exact this
      go_wp2_with (at_builtin; (try rw [Hki.out]); refine wpList_append_zeros rfl (.tmp 37) (.tmp 43) 178 3 rfl elU' rfl rfl Tryz.underlying3 _ k rfl (by first | rfl | (show Value.int _ _ = _; congr 1; omega)) Hrow2.out HT3.out.siz (by omega) (by omega) ?_)
      intro v' w4 hown4 hg4 hat4
      have hlq1 : (limbs a ++ List.replicate k 0).length = l2 := by rw [List.length_append, Hl1.out, List.length_replicate]; omega
      obtain ⟨a4, c4, rfl, hT4⟩ := HT3.out.grow (v' := v') (n := l1 + k) (L' := limbs a ++ List.replicate k 0) (by rw [List.length_append, Hl1.out, List.length_replicate]) (by rw [u64s_append, u64s_zeros]; exact hown4) (by rw [Hl1.out]; exact hg4) (by rw [Hl1.out]; exact hat4)
      have HT4 := Lib.hid hT4.swap
      have Hlq1 := Lib.hid hlq1
      clear hown4 hg4 hat4 HT3 Hrow2 hT4 hlq1
      obtain ⟨g3, hg3, hg31, hg32, -, -, -⟩ := HT4.out.o1.open (by rw [Hlp1.out]; omega)
      subst hg3
      have hbk := back_any w4 w.heap.size g3 c3 (limbs b ++ [0]) a4 c4 (limbs a ++ List.replicate k 0) 0 HT4.out.o1 ((limbs_pcs _).append (Pcs.zeros 1)) HT4.out.o2.reads ((limbs_pcs _).append (Pcs.zeros k)) (fun b' off' e h0 => by
        subst e
        intro e2
        exact HT4.out.ap g3 rfl (by simp [Value.ownBlock, e2])) (by rw [Hlp1.out, Hlq1.out]; omega) (by rw [Hlp1.out]; omega)
      rw [Hlp1.out, Hlq1.out] at hbk
      have Hbk := Lib.hid hbk
      rw [show l1 + k = l2 by omega]
      clear hbk
      go_wp2_with fail
      refine Calls.mono Hbk.out ?_
      rintro e w5 ⟨cc, M, hcc, rfl, hM, -, hpM, hvM, hoM, hgM⟩
      rw [Hlp1.out] at hM
      rw [Hlq1.out, val_snoc, val_limbs, val_pad, val_limbs, Nat.mul_zero, Nat.add_zero, Nat.pow_zero, Nat.one_mul, Nat.zero_add] at hvM
      have hval : val M = a + b := by
        have e1 := (limbs_length b l2).1 (by rw [Hl2.out]; exact Nat.le_refl _)
        have e2 := (limbs_length a l2).1 (by rw [Hl1.out]; omega)
        have e3 := add_room e1 e2
        rw [HX.out]
        rcases (show cc = 0 ∨ cc = 1 by omega) with h | h
        · rw [h, Nat.mul_zero, Nat.add_zero] at hvM; exact hvM
        · rw [h, Nat.mul_one] at hvM; omega
      obtain ⟨htr, hol, hll⟩ := trim_text w5 w.heap.size g3 c3 (a + b) M hoM hpM hval (by omega)
      rw [hM] at htr
      have Htr := Lib.hid htr
      have Hol := Lib.hid hol
      have Hb5 := Lib.hid (HT4.out.bel.grown (row := some g3) hgM HT4.out.siz (fun j hj => by injection hj with hj; omega))
      clear HT4 Hbk hcc hM hpM hvM hoM hgM hval htr hol
      go_wp2_with fail
      refine Calls.mono Htr.out ?_
      rintro e w6 ⟨rfl, hb6⟩
      have Hb6 := Lib.hid (Hb5.out.trans (hb6.mono Hb5.out.size))
      have Htx := Lib.hid (text_any w6 (some ⟨g3, 0, none⟩) c3 (a + b) (Hol.out.below hb6 (Nat.le_refl _)).reads hll)
      clear hb6 Hb5 Htr Hol
      go_wp2_with fail
      refine Calls.mono Htx.out ?_
      rintro e w7 ⟨rfl, hb7⟩
      have Hb7 := Lib.hid (Hb6.out.trans (hb7.mono Hb6.out.size))
      clear hb7 Hb6 Htx
      go_wp2
      go_ret
      exact ⟨rfl, Hb7.out⟩
    · have hlen' : ¬ (l1 : Int) < (l2 : Int) := by omega
      obtain ⟨k, hk⟩ : ∃ k, l1 - l2 = k := ⟨_, rfl⟩
      have hk1 : l2 + k ≤ l1 := by omega
      have hk2 : l1 ≤ l2 + k := by omega
      have hki : (l1 : Int) + 1 - 1 - l2 = (k : Int) := by omega
      have Hki := Lib.hid hki
      clear hk hki
      have Hrow : Hid (w2.ownsRow w.heap.size 112 1 (.slice a1 l1 c1) l1 (u64s (limbs a))) := by
        have := HT.out.o1
        unfold OwnU at this
        rw [Hl1.out] at this
        exact this
      go_wp2_with (at_builtin; refine wpList_append_one rfl (.tmp 33) (.tmp 34) 178 rfl elU' _ (.int .u64 0) rfl rfl Hrow.out HT.out.siz rfl (by omega) (by omega) ?_)
      intro v' w3 hown3 hg3 hat3
      have HT2 := Lib.hid (HT.out.next ((Below.refl _ _).alloc (Nat.le_refl _) (.cells #[.int .u64 0] 112)))
      have hlp1 : (limbs a ++ [0]).length = l1 + 1 := by rw [List.length_append, Hl1.out]; rfl
      obtain ⟨a3, c3, rfl, hT3⟩ := HT2.out.grow (v' := v') (L' := limbs a ++ [0]) hlp1 (by rw [u64s_append]; exact hown3) (by rw [Hl1.out]; exact hg3) (by rw [Hl1.out, show (w2.alloc (.cells #[.int .u64 0] 112)).heap.size = w2.heap.size + 1 by simp]; exact hat3)
      have HT3 := Lib.hid hT3.swap
      have Hlp1 := Lib.hid hlp1
      clear hown3 hg3 hat3 HT2 HT Hrow hT3 hlp1
      have Hrow2 : Hid (w3.ownsRow w.heap.size 112 1 (.slice a2 l2 c2) l2 (u64s (limbs b))) := by
        have := HT3.out.o1
        unfold OwnU at this
        rw [Hl2.out] at this
        exact this
      go_wp2_with (at_builtin; (try rw [Hki.out]); refine wpList_append_zeros rfl (.tmp 37) (.tmp 43) 178 3 rfl elU' rfl rfl Tryz.underlying3 _ k rfl (by first | rfl | (show Value.int _ _ = _; congr 1; omega)) Hrow2.out HT3.out.siz (by omega) (by omega) ?_)
      intro v' w4 hown4 hg4 hat4
      have hlq1 : (limbs b ++ List.replicate k 0).length = l1 := by rw [List.length_append, Hl2.out, List.length_replicate]; omega
      obtain ⟨a4, c4, rfl, hT4⟩ := HT3.out.grow (v' := v') (n := l2 + k) (L' := limbs b ++ List.replicate k 0) (by rw [List.length_append, Hl2.out, List.length_replicate]) (by rw [u64s_append, u64s_zeros]; exact hown4) (by rw [Hl2.out]; exact hg4) (by rw [Hl2.out]; exact hat4)
      have HT4 := Lib.hid hT4.swap
      have Hlq1 := Lib.hid hlq1
      clear hown4 hg4 hat4 HT3 Hrow2 hT4 hlq1
      obtain ⟨g3, hg3, hg31, hg32, -, -, -⟩ := HT4.out.o1.open (by rw [Hlp1.out]; omega)
      subst hg3
      have hbk := back_any w4 w.heap.size g3 c3 (limbs a ++ [0]) a4 c4 (limbs b ++ List.replicate k 0) 0 HT4.out.o1 ((limbs_pcs _).append (Pcs.zeros 1)) HT4.out.o2.reads ((limbs_pcs _).append (Pcs.zeros k)) (fun b' off' e h0 => by
        subst e
        intro e2
        exact HT4.out.ap g3 rfl (by simp [Value.ownBlock, e2])) (by rw [Hlp1.out, Hlq1.out]; omega) (by rw [Hlp1.out]; omega)
      rw [Hlp1.out, Hlq1.out] at hbk
      have Hbk := Lib.hid hbk
      rw [show l2 + k = l1 by omega]
      clear hbk
      go_wp2_with fail
      refine Calls.mono Hbk.out ?_
      rintro e w5 ⟨cc, M, hcc, rfl, hM, -, hpM, hvM, hoM, hgM⟩
      rw [Hlp1.out] at hM
      rw [Hlq1.out, val_snoc, val_limbs, val_pad, val_limbs, Nat.mul_zero, Nat.add_zero, Nat.pow_zero, Nat.one_mul, Nat.zero_add] at hvM
      have hval : val M = a + b := by
        have e1 := (limbs_length a l1).1 (by rw [Hl1.out]; exact Nat.le_refl _)
        have e2 := (limbs_length b l1).1 (by rw [Hl2.out]; omega)
        have e3 := add_room e1 e2
        rcases (show cc = 0 ∨ cc = 1 by omega) with h | h
        · rw [h, Nat.mul_zero, Nat.add_zero] at hvM; exact hvM
        · rw [h, Nat.mul_one] at hvM; omega
      obtain ⟨htr, hol, hll⟩ := trim_text w5 w.heap.size g3 c3 (a + b) M hoM hpM hval (by omega)
      rw [hM] at htr
      have Htr := Lib.hid htr
      have Hol := Lib.hid hol
      have Hb5 := Lib.hid (HT4.out.bel.grown (row := some g3) hgM HT4.out.siz (fun j hj => by injection hj with hj; omega))
      clear HT4 Hbk hcc hM hpM hvM hoM hgM hval htr hol
      go_wp2_with fail
      refine Calls.mono Htr.out ?_
      rintro e w6 ⟨rfl, hb6⟩
      have Hb6 := Lib.hid (Hb5.out.trans (hb6.mono Hb5.out.size))
      have Htx := Lib.hid (text_any w6 (some ⟨g3, 0, none⟩) c3 (a + b) (Hol.out.below hb6 (Nat.le_refl _)).reads hll)
      clear hb6 Hb5 Htr Hol
      go_wp2_with fail
      refine Calls.mono Htx.out ?_
      rintro e w7 ⟨rfl, hb7⟩
      have Hb7 := Lib.hid (Hb6.out.trans (hb7.mono Hb6.out.size))
      clear hb7 Hb6 Htx
      go_wp2
      go_ret
      exact ⟨rfl, Hb7.out⟩

end Go.Proofs.YtlomhfknmhaboaaGreatDoor

/- Sub over decimal texts. -/
namespace Go.Proofs.YtlomhfknmhaboaaGreatDoor
open Go.RowKit

theorem two_of {B : Nat} {w w3 w4 : World} {a1 : Option Addr} {c1 : Nat} {L1 : List Nat} {a2 : Option Addr} {c2 : Nat} {L2 : List Nat} (h1 : OwnU w3 B a1 c1 L1) (hb : Below B w w3) (hs : B ≤ w3.heap.size)
    (h2 : OwnU w4 w3.heap.size a2 c2 L2) (hb2 : Below w3.heap.size w3 w4) : Two B a1 c1 L1 a2 c2 L2 w w4 := by
  have s3 := hb2.size
  refine ⟨h1.below hb2 (Nat.le_refl _), h2.mono hs, ?_, hb.trans (hb2.mono hs), by omega⟩
  intro k hk hk2
  have e1 := (World.ownsRow.lt h1 k hk).2
  have e2 := (World.ownsRow.lt h2 k hk2).1
  omega

set_option maxRecDepth 100000 in
set_option maxHeartbeats 8000000 in
theorem sub_any (w : World) (a b : Nat) (ha : Num a) (hb : Num b) (L : Laid w) :
    Gives Tryz.prog 132 #[.string (dec a), .string (dec b)] w (if a < b then .tuple #[.string ⟨#[]⟩, .int .i64 3] else .tuple #[.string (dec (a - b)), .int .i64 0]) := by
  unfold Gives
  have ha' : (dec a).size ≤ 1000000 := ha
  have hb' : (dec b).size ≤ 1000000 := hb
  have Hcm := Lib.hid (compareS_any w a b (by omega) (by omega))
  by_cases hlt : a < b
  · rw [if_pos hlt]
    have hcv : cmpN a b = -1 := by unfold cmpN; rw [if_pos hlt]
    rw [hcv] at Hcm
    clear hcv L
    generalize dec a = s at *
    generalize dec b = t at *
    go_enter Tryz.func132, Tryz.ntmps132
    go_wp2_with fail
    refine Calls.mono Hcm.out ?_
    rintro e w1 ⟨rfl, hb1⟩
    have Hb1 := Lib.hid hb1
    clear hb1 Hcm
    go_wp2
    go_ret2
    exact ⟨rfl, Hb1.out⟩
  · rw [if_neg hlt]
    have hcn : ¬ cmpN a b < 0 := by unfold cmpN; rw [if_neg hlt]; split <;> omega
    have Hbo : Hid (∀ w', Below w.heap.size w w' → Gives Tryz.prog 141 #[.string (dec a), .string (dec b)] w' (if a < 1000000000000000000 ∧ b < 1000000000000000000 then .tuple #[.int .u64 a, .int .u64 b, .bool true] else .tuple #[.int .u64 0, .int .u64 0, .bool false])) := fun w' hb'' => both_any w' a b (by omega) (by omega) (L.below hb'')
    generalize cmpN a b = cn at *
    by_cases hs : a < 1000000000000000000 ∧ b < 1000000000000000000
    · rw [if_pos hs] at Hbo
      obtain ⟨hs1, hs2⟩ := hs
      have hsum : a - b < 18446744073709551616 := by omega
      have Hof : Hid (∀ w', Below w.heap.size w w' → Gives Tryz.prog 122 #[.int .u64 (a - b : Nat)] w' (.string (dec (a - b)))) := fun w' hb' => of_any w' (a - b) hsum (L.below hb')
      have hw1 : IntKind.u64.wrap ((a : Int) - (b : Int)) = ((a - b : Nat) : Int) := by rw [show (a : Int) - (b : Int) = ((a - b : Nat) : Int) by omega]; exact wrap_u _ hsum
      clear L
      generalize dec a = s at *
      generalize dec b = t at *
      go_enter Tryz.func132, Tryz.ntmps132
      go_wp2_with fail
      refine Calls.mono Hcm.out ?_
      rintro e w0 ⟨rfl, hb0⟩
      have Hb0 := Lib.hid hb0
      clear hb0 Hcm
      go_wp2_with fail
      refine Calls.mono (Hbo.out w0 Hb0.out) ?_
      rintro e w1 ⟨rfl, hb1⟩
      have Hb1 := Lib.hid (Hb0.out.trans (hb1.mono Hb0.out.size))
      clear hb1 Hbo Hb0
      go_wp2_with fail
      refine Calls.mono (Hof.out w1 Hb1.out) ?_
      rintro e w2 ⟨rfl, hb2⟩
      have Hb2 := Lib.hid (Hb1.out.trans (hb2.mono Hb1.out.size))
      clear hb2 Hb1 Hof
      go_wp2
      go_ret2
      exact ⟨rfl, Hb2.out⟩
    · rw [if_neg hs] at Hbo
      have la := limbs_of_dec a 1000000 (by decide) ha
      have lb := limbs_of_dec b 1000000 (by decide) hb
      have hlab := limbs_len_mono (show b ≤ a by omega)
      have Hc1 := Lib.hid (fun w' => cutD w' a ha)
      have Hc2 := Lib.hid (fun w' => cutD w' b hb)
      clear L hs
      generalize dec a = s at *
      generalize dec b = t at *
      go_enter Tryz.func132, Tryz.ntmps132
      go_wp2_with fail
      refine Calls.mono Hcm.out ?_
      rintro e w0 ⟨rfl, hb0⟩
      have Hb0 := Lib.hid hb0
      clear hb0 Hcm
      go_wp2_with fail
      refine Calls.mono (Hbo.out w0 Hb0.out) ?_
      rintro e w1 ⟨rfl, hb1⟩
      have Hb1 := Lib.hid (Hb0.out.trans (hb1.mono Hb0.out.size))
      clear hb1 Hbo Hb0
      go_wp2_with fail
      refine Calls.mono (Hc1.out _) ?_
      rintro e w2 ⟨a1, c1, rfl, ho1, hb1⟩
      have Hb2 := Lib.hid (Hb1.out.trans (hb1.mono Hb1.out.size))
      have Ho1 := Lib.hid (ho1.mono Hb1.out.size)
      obtain ⟨l1, hl1⟩ : ∃ l, (limbs a).length = l := ⟨_, rfl⟩
      obtain ⟨l2, hl2⟩ : ∃ l, (limbs b).length = l := ⟨_, rfl⟩
      rw [hl1] at la hlab ⊢
      rw [hl2] at lb hlab
      have Hl1 := Lib.hid hl1
      have Hl2 := Lib.hid hl2
      clear hl1 hl2 ho1 hb1 Hc1 Hb1
      have Hrow : Hid (w2.ownsRow w.heap.size 112 1 (.slice a1 l1 c1) l1 (u64s (limbs a))) := by
        have := Ho1.out
        unfold OwnU at this
        rw [Hl1.out] at this
        exact this
      have hsz2 := Hb2.out.size
      go_wp2_with (at_builtin; refine wpList_append_one rfl (.tmp 27) (.tmp 28) 178 rfl elU' _ (.int .u64 0) rfl rfl Hrow.out hsz2 rfl (by omega) (by omega) ?_)
      intro v' w3 hown3 hg3 hat3
      have hlp1 : (limbs a ++ [0]).length = l1 + 1 := by rw [List.length_append, Hl1.out]; rfl
      have Hb3 : Hid (Below w.heap.size w w3) := (Hb2.out.alloc hsz2 _).grown hg3 (by simp; omega) (fun k hk => (Hrow.out.lt k hk).1)
      obtain ⟨a3, c3, rfl⟩ := own_form hown3
      have Ho3 : Hid (OwnU w3 w.heap.size a3 c3 (limbs a ++ [0])) := by
        show OwnU ..
        unfold OwnU
        rw [hlp1, u64s_append]
        exact hown3
      have Hlp1 := Lib.hid hlp1
      clear hown3 hg3 hat3 Hrow hlp1 Ho1 Hb2 hsz2
      go_wp2_with fail
      refine Calls.mono (Hc2.out _) ?_
      rintro e w4 ⟨a2, c2, rfl, ho2, hb2⟩
      have HT := Lib.hid (two_of Ho3.out Hb3.out Hb3.out.size ho2 hb2)
      clear ho2 hb2 Ho3 Hb3
      go_wp2_with fail
      refine Calls.mono (Hc2.out _) ?_
      rintro e w5 ⟨a9, c9, rfl, -, hb5⟩
      have HT3 := Lib.hid (HT.out.next hb5).swap
      clear hb5 HT Hc2
      rw [Hl2.out]
      obtain ⟨k, hk⟩ : ∃ k, l1 - l2 = k := ⟨_, rfl⟩
      have hk1 : l2 + k ≤ l1 := by omega
      have hk2 : l1 ≤ l2 + k := by omega
      have Hki : Hid ((l1 : Int) + 1 - 1 - l2 = (k : Int)) := by show _ = _; omega
      clear hk
      have Hrow2 : Hid (w5.ownsRow w.heap.size 112 1 (.slice a2 l2 c2) l2 (u64s (limbs b))) := by
        have := HT3.out.o1
        unfold OwnU at this
        rw [Hl2.out] at this
        exact this
      go_wp2_with (at_builtin; (try rw [Hki.out]); refine wpList_append_zeros rfl (.tmp 32) (.tmp 39) 178 3 rfl elU' rfl rfl Tryz.underlying3 _ k rfl (by first | rfl | (show Value.int _ _ = _; congr 1; omega)) Hrow2.out HT3.out.siz (by omega) (by omega) ?_)
      intro v' w6 hown4 hg4 hat4
      have hlq1 : (limbs b ++ List.replicate k 0).length = l1 := by rw [List.length_append, Hl2.out, List.length_replicate]; omega
      obtain ⟨a4, c4, rfl, hT4⟩ := HT3.out.grow (v' := v') (n := l2 + k) (L' := limbs b ++ List.replicate k 0) (by rw [List.length_append, Hl2.out, List.length_replicate]) (by rw [u64s_append, u64s_zeros]; exact hown4) (by rw [Hl2.out]; exact hg4) (by rw [Hl2.out]; exact hat4)
      have HT4 := Lib.hid hT4.swap
      have Hlq1 := Lib.hid hlq1
      clear hown4 hg4 hat4 HT3 Hrow2 hT4 hlq1
      obtain ⟨g3, hg3, hg31, hg32, -, -, -⟩ := HT4.out.o1.open (by rw [Hlp1.out]; omega)
      subst hg3
      have hbk := take_any w6 w.heap.size g3 c3 (limbs a ++ [0]) a4 c4 (limbs b ++ List.replicate k 0) 1 0 HT4.out.o1 ((limbs_pcs _).append (Pcs.zeros 1)) HT4.out.o2.reads ((limbs_pcs _).append (Pcs.zeros k)) (fun b' off' e h0 => by
        subst e
        intro e2
        exact HT4.out.ap g3 rfl (by simp [Value.ownBlock, e2])) (by decide) (by rw [Hlp1.out, Hlq1.out]; omega) (by rw [Hlp1.out]; omega)
      rw [Hlp1.out, Hlq1.out] at hbk
      have Hbk := Lib.hid hbk
      rw [show l2 + k = l1 by omega]
      clear hbk
      go_wp2_with fail
      refine Calls.mono Hbk.out ?_
      rintro e w7 ⟨cc, M, hcc, rfl, hM, -, hpM, hvM, hoM, hgM⟩
      rw [Hlp1.out] at hM
      rw [Hlq1.out, val_snoc, val_limbs, val_pad, val_limbs, Nat.mul_zero, Nat.add_zero, Nat.pow_zero, Nat.one_mul, Nat.one_mul, Nat.zero_add] at hvM
      have hval : val M = a - b := by
        have e1 := val_lt hpM
        rw [hM] at e1
        rcases (show cc = 0 ∨ cc = 1 by omega) with h | h
        · rw [h, Nat.mul_zero, Nat.add_zero] at hvM; omega
        · rw [h, Nat.mul_one] at hvM; omega
      obtain ⟨htr, hol, hll⟩ := trim_text w7 w.heap.size g3 c3 (a - b) M hoM hpM hval (by omega)
      rw [hM] at htr
      have Htr := Lib.hid htr
      have Hol := Lib.hid hol
      have Hb5 := Lib.hid (HT4.out.bel.grown (row := some g3) hgM HT4.out.siz (fun j hj => by injection hj with hj; omega))
      clear HT4 Hbk hM hpM hvM hoM hgM hval htr hol
      generalize decide (cc = 1) = bo at *
      clear hcc
      go_wp2_with fail
      refine Calls.mono Htr.out ?_
      rintro e w8 ⟨rfl, hb6⟩
      have Hb6 := Lib.hid (Hb5.out.trans (hb6.mono Hb5.out.size))
      have Htx := Lib.hid (text_any w8 (some ⟨g3, 0, none⟩) c3 (a - b) (Hol.out.below hb6 (Nat.le_refl _)).reads hll)
      clear hb6 Hb5 Htr Hol
      go_wp2_with fail
      refine Calls.mono Htx.out ?_
      rintro e w9 ⟨rfl, hb7⟩
      have Hb7 := Lib.hid (Hb6.out.trans (hb7.mono Hb6.out.size))
      clear hb7 Hb6 Htx
      go_wp2
      go_ret2
      exact ⟨rfl, Hb7.out⟩

end Go.Proofs.YtlomhfknmhaboaaGreatDoor

/- Integers as text: split, join, Neg, Abs, Sign, Check, Of, little, Small. -/
namespace Go.Proofs.YtlomhfknmhaboaaGreatDoor
open Go.RowKit

/-- The text of an integer. -/
def itx (z : Int) : ByteArray := bs (Lib.itoa z)
/-- An integer whose text is not long. -/
def ZNum (z : Int) : Prop := Num z.natAbs

theorem itx_nat (n : Nat) : itx (n : Int) = dec n := by unfold itx dec; rw [Lib.itoa_nonneg]
theorem itx_neg (n : Nat) (h : 1 ≤ n) : itx (-(n : Int)) = bs (45 :: Lib.decDigits n) := by unfold itx; rw [Lib.itoa_neg n h]
theorem itx_neg_eq (n : Nat) (h : 1 ≤ n) : itx (-(n : Int)) = ⟨#[45]⟩ ++ dec n := by
  rw [itx_neg n h]
  unfold dec bs
  apply ByteArray.ext
  rw [ByteArray.data_append]
  simp
theorem itx_neg_size (n : Nat) (h : 1 ≤ n) : (itx (-(n : Int))).size = (dec n).size + 1 := by
  rw [itx_neg n h]
  unfold dec bs; simp [ByteArray.size]
theorem itx_size_le (z : Int) : (itx z).size ≤ (dec z.natAbs).size + 1 := by
  rcases Int.eq_nat_or_neg z with ⟨n, rfl | rfl⟩
  · rw [itx_nat]; simp
  · rcases Nat.eq_zero_or_pos n with h | h
    · subst h; show (itx 0).size ≤ (dec 0).size + 1; have := itx_nat 0; rw [show ((0 : Nat) : Int) = 0 from rfl] at this; rw [this]; omega
    · rw [itx_neg_size n h]; simp
theorem itx_size_ge (z : Int) : (dec z.natAbs).size ≤ (itx z).size := by
  rcases Int.eq_nat_or_neg z with ⟨n, rfl | rfl⟩
  · rw [itx_nat]; simp
  · rcases Nat.eq_zero_or_pos n with h | h
    · subst h; show (dec 0).size ≤ (itx 0).size; have := itx_nat 0; rw [show ((0 : Nat) : Int) = 0 from rfl] at this; rw [this]; omega
    · rw [itx_neg_size n h]; simp

theorem dec_first (n : Nat) : 48 ≤ ((lb (dec n)).getD 0 0).toNat ∧ ((lb (dec n)).getD 0 0).toNat ≤ 57 := by
  rw [lb_dec]
  have hp := dec_pos n
  have := dec_digs n ((Lib.decDigits n).getD 0 0) (by rw [List.getD_eq_getElem?_getD, List.getElem?_eq_getElem hp]; exact List.getElem_mem _)
  exact this

theorem dec_sizepos (n : Nat) : 0 < (dec n).size := by rw [dec_size]; exact dec_pos n

theorem itx_rest (n : Nat) (h : 1 ≤ n) : (itx (-(n : Int))).extract 1 (itx (-(n : Int))).size = dec n := by
  apply ByteArray.ext
  have hl := itx_neg_size n h
  rw [ByteArray.data_extract, hl, itx_neg n h]
  apply Array.ext'
  rw [Array.toList_extract]
  unfold dec bs
  simp [ByteArray.size]

theorem lb_itx_neg (n : Nat) (h : 1 ≤ n) : lb (itx (-(n : Int))) = 45 :: Lib.decDigits n := by rw [itx_neg n h]; simp

set_option maxRecDepth 100000 in
set_option maxHeartbeats 2000000 in
theorem split_any (w : World) (z : Int) :
    Gives Tryz.prog 76 #[.string (itx z)] w (.tuple #[.bool (decide (z < 0)), .string (dec z.natAbs)]) := by
  unfold Gives
  by_cases hz : z < 0
  · obtain ⟨n, rfl⟩ : ∃ n : Nat, z = -(n : Int) := ⟨z.natAbs, by omega⟩
    have hn : 1 ≤ n := by omega
    have hsz := itx_neg_size n hn
    have hix : ∀ W, (Instr.index 28 (.string (itx (-(n : Int)))) (.int .i64 0)).run Tryz.prog W = .ok (.int .u8 45) W := fun W => by
      rw [idx0 W _ (by omega), lb_itx_neg n hn]; rfl
    have hpos : (0 : Int) < (itx (-(n : Int))).size := by omega
    have hone : (1 : Int) ≤ (itx (-(n : Int))).size := by omega
    have Hr := Lib.hid (itx_rest n hn)
    have Hv : Hid (decide (-(n : Int) < 0) = true) := by show _ = _; rw [decide_eq_true_eq]; exact hz
    have Ha : Hid ((-(n : Int)).natAbs = n) := by show _ = _; omega
    clear hz hsz
    generalize itx (-(n : Int)) = s at *
    go_enter Tryz.func76, Tryz.ntmps76
    go_wp2_with fail
    go_quiet (fail)
    go_wp2
    go_ret2
    exact ⟨by rw [Hv.out, Ha.out, ← Hr.out]; first | rfl | simp, by first | exact Below.refl _ _ | exact below_drawn _ _⟩
  · obtain ⟨n, rfl⟩ : ∃ n : Nat, z = (n : Int) := ⟨z.natAbs, by omega⟩
    have hix : ∀ W, (Instr.index 28 (.string (dec n)) (.int .i64 0)).run Tryz.prog W = .ok (.int .u8 ((lb (dec n)).getD 0 0).toNat) W := fun W => idx0 W _ (dec_sizepos n)
    have hf := dec_first n
    have hpos : (0 : Int) < (dec n).size := by have := dec_sizepos n; omega
    have Hv : Hid (decide ((n : Int) < 0) = false) := by show _ = _; rw [decide_eq_false_iff_not]; exact hz
    have Ha : Hid ((n : Int).natAbs = n) := rfl
    rw [itx_nat]
    clear hz
    generalize ((lb (dec n)).getD 0 0).toNat = c at *
    have hc : ((c : Int) == 45) = false := by rw [beq_eq_false_iff_ne]; omega
    go_enter Tryz.func76, Tryz.ntmps76
    go_wp2
    go_ret2
    exact ⟨by rw [Hv.out]; rfl, Below.refl _ _⟩

/-- The integer with a sign and a magnitude. -/
def jz (neg : Bool) (m : Nat) : Int := if neg then -(m : Int) else m

set_option maxHeartbeats 2000000 in
theorem join_any (w : World) (neg : Bool) (m : Nat) (hm : Num m) :
    Gives Tryz.prog 78 #[.bool neg, .string (dec m)] w (.string (itx (jz neg m))) := by
  unfold Gives
  have hz := is_zero m
  cases neg with
  | false =>
    have Hv : Hid (itx (jz false m) = dec m) := itx_nat m
    clear hz
    generalize dec m = s at *
    go_enter Tryz.func78, Tryz.ntmps78
    go_wp2
    go_ret
    exact ⟨by rw [Hv.out]; rfl, Below.refl _ _⟩
  | true =>
    by_cases h0 : m = 0
    · rw [decide_eq_true h0] at hz
      have Hv : Hid (itx (jz true m) = dec m) := by
        show _ = _
        rw [h0]
        exact itx_nat 0
      clear h0
      generalize dec m = s at *
      go_enter Tryz.func78, Tryz.ntmps78
      go_wp2
      go_ret
      exact ⟨by rw [Hv.out]; rfl, Below.refl _ _⟩
    · rw [decide_eq_false h0] at hz
      have Hv : Hid (itx (jz true m) = ⟨#[45]⟩ ++ dec m) := by
        exact itx_neg_eq m (by omega)
      have hadd : ∀ W, (Op.stringOp .add ⟨#[45]⟩ (dec m)).run Tryz.prog W = .ok (.string (⟨#[45]⟩ ++ dec m)) W := fun W => run_string_add W _ _ (by decide) (by have : (dec m).size ≤ 1000000 := hm; omega)
      clear h0
      generalize dec m = s at *
      go_enter Tryz.func78, Tryz.ntmps78
      go_wp2
      go_ret
      exact ⟨by rw [Hv.out]; rfl, Below.refl _ _⟩

set_option maxHeartbeats 2000000 in
theorem neg_any (w : World) (z : Int) (hz : ZNum z) :
    Gives Tryz.prog 34 #[.string (itx z)] w (.string (itx (-z))) := by
  unfold Gives
  have Hs := Lib.hid (split_any w z)
  have Hj := Lib.hid (fun W => join_any W (!decide (z < 0)) z.natAbs hz)
  have Hv : Hid (jz (!decide (z < 0)) z.natAbs = -z) := by
    show _ = _
    unfold jz
    by_cases h : z < 0
    · simp [h]; omega
    · simp [h]; omega
  generalize itx z = s at *
  generalize dec z.natAbs = t at *
  generalize decide (z < 0) = bo at *
  go_enter Tryz.func34, Tryz.ntmps34
  go_wp2_with fail
  refine Calls.mono Hs.out ?_
  rintro e w1 ⟨rfl, hb1⟩
  have Hb1 := Lib.hid hb1
  clear hb1 Hs
  go_wp2_with fail
  refine Calls.mono (Hj.out w1) ?_
  rintro e w2 ⟨rfl, hb2⟩
  have Hb2 := Lib.hid (Hb1.out.trans (hb2.mono Hb1.out.size))
  clear hb2 Hb1 Hj
  go_wp2
  go_ret
  exact ⟨by rw [← Hv.out]; rfl, Hb2.out⟩

set_option maxHeartbeats 2000000 in
theorem abs_any (w : World) (z : Int) :
    Gives Tryz.prog 63 #[.string (itx z)] w (.string (dec z.natAbs)) := by
  unfold Gives
  have Hs := Lib.hid (split_any w z)
  generalize itx z = s at *
  generalize dec z.natAbs = t at *
  generalize decide (z < 0) = bo at *
  go_enter Tryz.func63, Tryz.ntmps63
  go_wp2_with fail
  refine Calls.mono Hs.out ?_
  rintro e w1 ⟨rfl, hb1⟩
  have Hb1 := Lib.hid hb1
  clear hb1 Hs
  go_wp2
  go_ret
  exact ⟨rfl, Hb1.out⟩

theorem itx_isz (z : Int) : ((itx z).toList == [48]) = decide (z = 0) := by
  rcases Int.eq_nat_or_neg z with ⟨n, rfl | rfl⟩
  · rw [itx_nat, is_zero]
    by_cases h : n = 0
    · subst h; rfl
    · rw [decide_eq_false h, decide_eq_false (by omega)]
  · rcases Nat.eq_zero_or_pos n with h | h
    · subst h
      have := itx_nat 0
      show ((itx 0).toList == [48]) = _
      rw [show ((0 : Nat) : Int) = 0 from rfl] at this
      rw [this, is_zero]; rfl
    · rw [toList_lb, lb_itx_neg n h, decide_eq_false (by omega), beq_eq_false_iff_ne]
      intro e
      injection e with e1 e2
      exact absurd e1 (by decide)

set_option maxHeartbeats 2000000 in
theorem sign_any (w : World) (z : Int) :
    Gives Tryz.prog 54 #[.string (itx z)] w (.int .i64 z.sign) := by
  unfold Gives
  have hq := itx_isz z
  rcases Int.lt_trichotomy z 0 with hz | hz | hz
  · rw [decide_eq_false (by omega)] at hq
    have Hv : Hid (z.sign = -1) := Int.sign_eq_neg_one_of_neg hz
    obtain ⟨n, rfl⟩ : ∃ n : Nat, z = -(n : Int) := ⟨z.natAbs, by omega⟩
    have hn : 1 ≤ n := by omega
    have hsz := itx_neg_size n hn
    have hix : ∀ W, (Instr.index 28 (.string (itx (-(n : Int)))) (.int .i64 0)).run Tryz.prog W = .ok (.int .u8 45) W := fun W => by
      rw [idx0 W _ (by omega), lb_itx_neg n hn]; rfl
    clear hsz hz
    generalize itx (-(n : Int)) = s at *
    go_enter Tryz.func54, Tryz.ntmps54
    go_wp2
    go_ret
    exact ⟨by rw [Hv.out]; rfl, Below.refl _ _⟩
  · subst hz
    rw [decide_eq_true rfl] at hq
    generalize itx 0 = s at *
    go_enter Tryz.func54, Tryz.ntmps54
    go_wp2
    go_ret
    exact ⟨rfl, Below.refl _ _⟩
  · rw [decide_eq_false (by omega)] at hq
    have Hv : Hid (z.sign = 1) := Int.sign_eq_one_of_pos hz
    obtain ⟨n, rfl⟩ : ∃ n : Nat, z = (n : Int) := ⟨z.natAbs, by omega⟩
    rw [itx_nat] at hq ⊢
    have hix : ∀ W, (Instr.index 28 (.string (dec n)) (.int .i64 0)).run Tryz.prog W = .ok (.int .u8 ((lb (dec n)).getD 0 0).toNat) W := fun W => idx0 W _ (dec_sizepos n)
    have hf := dec_first n
    clear hz
    generalize ((lb (dec n)).getD 0 0).toNat = c at *
    have hc : ((c : Int) == 45) = false := by rw [beq_eq_false_iff_ne]; omega
    generalize dec n = s at *
    go_enter Tryz.func54, Tryz.ntmps54
    go_wp2
    go_ret
    exact ⟨by rw [Hv.out]; rfl, Below.refl _ _⟩

end Go.Proofs.YtlomhfknmhaboaaGreatDoor

/- Integers as text: Of, little, Small, Check, Compare, Mul, Add. -/
namespace Go.Proofs.YtlomhfknmhaboaaGreatDoor
open Go.RowKit

theorem below_of_grow {w w' : World} (h : ∃ k os, w' = Go.Sort.grow (w.drewN k) os) : Below w.heap.size w w' := by
  obtain ⟨k, os, rfl⟩ := h
  exact below_regrown w (w.drewN k).drawn os

set_option maxHeartbeats 2000000 in
theorem ofz_any (w : World) (z : Int) (h0 : -9223372036854775808 ≤ z) (h1 : z ≤ 9223372036854775807) (L : Laid w) :
    Gives Tryz.prog 97 #[.int .i64 z] w (.string (itx z)) := by
  unfold Gives
  have Hc := Lib.hid (Tryz.strconv_Itoa z h0 h1 w L.tab)
  have Hv : Hid (itx z = ⟨(Lib.itoa z).toArray⟩) := rfl
  go_enter Tryz.func97, Tryz.ntmps97
  go_wp2_with fail
  refine Calls.mono Hc.out ?_
  rintro e w1 ⟨rfl, hw⟩
  have Hb := Lib.hid (below_of_grow hw)
  clear hw
  go_wp2
  go_ret
  exact ⟨by rw [Hv.out]; rfl, Hb.out⟩

theorem parse_mag (n : Nat) : Lib.parseMag (Lib.decDigits n) = if n < 18446744073709551616 then .ok n else .range := by
  have := parse_dec n
  rw [show (dec n).data.toList = Lib.decDigits n from lb_dec n, Lib.parseUintB_64] at this
  exact this

theorem dec_cons (n : Nat) : ∃ c r, Lib.decDigits n = c :: r ∧ 48 ≤ c.toNat ∧ c.toNat ≤ 57 := by
  have h := dec_pos n
  have hd := dec_digs n
  cases e : Lib.decDigits n with
  | nil => rw [e] at h; simp at h
  | cons c r => exact ⟨c, r, rfl, hd c (by rw [e]; exact List.mem_cons_self)⟩

theorem atoi_itx (z : Int) (h : z.natAbs < 9223372036854775808) : Lib.atoiAll (itx z).data.toList = .ok z := by
  by_cases hz : z < 0
  · obtain ⟨n, rfl⟩ : ∃ n : Nat, z = -(n : Int) := ⟨z.natAbs, by omega⟩
    have hn : 1 ≤ n := by omega
    have e : (itx (-(n : Int))).data.toList = 45 :: Lib.decDigits n := lb_itx_neg n hn
    rw [e]
    have hp := parse_mag n
    rw [if_pos (by omega)] at hp
    have h45 : (45 : UInt8).toNat = 45 := rfl
    simp only [Lib.atoiAll, h45, or_true, if_true, hp, not_true_eq_false, false_and, if_false, true_and]
    rw [if_neg (by omega)]
  · obtain ⟨n, rfl⟩ : ∃ n : Nat, z = (n : Int) := ⟨z.natAbs, by omega⟩
    have e : (itx (n : Int)).data.toList = Lib.decDigits n := by rw [itx_nat]; exact lb_dec n
    rw [e]
    have hp := parse_mag n
    rw [if_pos (by omega)] at hp
    obtain ⟨c, r, hc, h1, h2⟩ := dec_cons n
    rw [hc] at hp ⊢
    have q1 : ¬ c.toNat = 43 := by omega
    have q2 : ¬ c.toNat = 45 := by omega
    simp only [Lib.atoiAll, q1, q2, or_self, if_false, hp, not_false_eq_true, true_and, false_and]
    rw [if_neg (by omega)]

theorem parseInt_itx (z : Int) : Lib.parseIntB 64 (itx z).data.toList = if -9223372036854775808 ≤ z ∧ z ≤ 9223372036854775807 then .ok z else .range := by
  have hpow : (2 : Nat) ^ (64 - 1) = 9223372036854775808 := by decide
  by_cases hz : z < 0
  · obtain ⟨n, rfl⟩ : ∃ n : Nat, z = -(n : Int) := ⟨z.natAbs, by omega⟩
    have hn : 1 ≤ n := by omega
    have e : (itx (-(n : Int))).data.toList = 45 :: Lib.decDigits n := lb_itx_neg n hn
    rw [e]
    have hp := parse_mag n
    have h45 : (45 : UInt8).toNat = 45 := rfl
    by_cases hb : n < 18446744073709551616
    · rw [if_pos hb] at hp
      simp only [Lib.parseIntB, Lib.parseUintB_64, h45, or_true, if_true, hp, not_true_eq_false, false_and, if_false, true_and, hpow]
      by_cases h3 : 9223372036854775808 < n
      · rw [if_pos h3, if_neg (by omega)]
      · rw [if_neg h3, if_pos (by omega)]
    · rw [if_neg hb] at hp
      simp only [Lib.parseIntB, Lib.parseUintB_64, h45, or_true, if_true, hp]
      rw [if_neg (by omega)]
  · obtain ⟨n, rfl⟩ : ∃ n : Nat, z = (n : Int) := ⟨z.natAbs, by omega⟩
    have e : (itx (n : Int)).data.toList = Lib.decDigits n := by rw [itx_nat]; exact lb_dec n
    rw [e]
    have hp := parse_mag n
    obtain ⟨c, r, hc, h1, h2⟩ := dec_cons n
    rw [hc] at hp ⊢
    have q1 : ¬ c.toNat = 43 := by omega
    have q2 : ¬ c.toNat = 45 := by omega
    by_cases hb : n < 18446744073709551616
    · rw [if_pos hb] at hp
      simp only [Lib.parseIntB, Lib.parseUintB_64, q1, q2, or_self, if_false, hp, not_false_eq_true, true_and, false_and, hpow]
      by_cases h3 : 9223372036854775808 ≤ n
      · rw [if_pos h3, if_neg (by omega)]
      · rw [if_neg h3, if_pos (by omega)]
    · rw [if_neg hb] at hp
      simp only [Lib.parseIntB, Lib.parseUintB_64, q1, q2, or_self, if_false, hp]
      rw [if_neg (by omega)]

theorem itx_lim (z : Int) (k : Nat) (hk : 0 < k) (h : (itx z).size ≤ k) : z.natAbs < 10 ^ k := by
  have := itx_size_ge z
  rw [← dec_length z.natAbs k hk, ← dec_size]; omega

set_option maxHeartbeats 2000000 in
theorem littlez_any (w : World) (z : Int) (hz : ZNum z) (most : Nat) (hm : most ≤ 18) :
    Gives Tryz.prog 96 #[.string (itx z), .int .i64 most] w (if (itx z).size ≤ most then .tuple #[.int .i64 z, .bool true] else .tuple #[.int .i64 0, .bool false]) := by
  unfold Gives
  have hz1 : (dec z.natAbs).size ≤ 1000000 := hz
  have hz2 := itx_size_le z
  by_cases h : (itx z).size ≤ most
  · rw [if_pos h]
    have hlt := itx_lim z 18 (by decide) (by omega)
    have Hc := Lib.hid (Tryz.strconv_Atoi_ok (itx z) (by omega) z (atoi_itx z (by omega)) w)
    have Hbb := Lib.hid (fun t => below_bytes w 5 t)
    have h' : ((itx z).size : Int) ≤ most := by omega
    clear hlt hz1 hz2
    generalize itx z = s at *
    go_enter Tryz.func96, Tryz.ntmps96
    go_wp2_with fail
    refine Calls.mono Hc.out ?_
    rintro e w1 ⟨rfl, hw⟩
    have Hb : Hid (Below w.heap.size w w1) := by
      show Below _ _ _
      rcases hw with rfl | ⟨t, rfl⟩
      · exact Below.refl _ _
      · exact Hbb.out t
    clear hw
    go_wp2_with fail
    go_quiet (fail)
    go_wp2
    go_ret2
    exact ⟨rfl, below_dn Hb.out _⟩
  · rw [if_neg h]
    have h' : ¬ ((itx z).size : Int) ≤ most := by omega
    generalize itx z = s at *
    go_enter Tryz.func96, Tryz.ntmps96
    go_wp2
    go_ret2
    exact ⟨rfl, Below.refl _ _⟩

set_option maxHeartbeats 2000000 in
theorem smallz_any (w : World) (z : Int) (hz : ZNum z) (L : Laid w) :
    Gives Tryz.prog 110 #[.string (itx z)] w (if -9223372036854775808 ≤ z ∧ z ≤ 9223372036854775807 then .tuple #[.int .i64 z, .bool true] else .tuple #[.int .i64 0, .bool false]) := by
  unfold Gives
  have hz1 : (dec z.natAbs).size ≤ 1000000 := hz
  have hz2 := itx_size_le z
  have hp := parseInt_itx z
  by_cases h : -9223372036854775808 ≤ z ∧ z ≤ 9223372036854775807
  · rw [if_pos h] at hp ⊢
    have Hc := Lib.hid (Tryz.strconv_ParseInt_10_at64_ok (itx z) (by omega) z hp w)
    have Hbb := Lib.hid (fun t => below_bytes w 5 t)
    clear hz1 hz2 hp
    generalize itx z = s at *
    have hwr : IntKind.i64.wrap z = z := IntWalk.i64_in _ h
    go_enter Tryz.func110, Tryz.ntmps110
    go_wp2_with fail
    refine Calls.mono Hc.out ?_
    rintro e w1 ⟨rfl, hw⟩
    have Hb : Hid (Below w.heap.size w w1) := by
      show Below _ _ _
      rcases hw with rfl | ⟨t, rfl⟩
      · exact Below.refl _ _
      · exact Hbb.out t
    clear hw
    go_wp2
    go_ret2
    exact ⟨rfl, Hb.out⟩
  · rw [if_neg h] at hp ⊢
    obtain ⟨ev, hv, hev⟩ := L.range
    have Hc := Lib.hid (Tryz.strconv_ParseInt_10_at64_range (itx z) (by omega) hp ev w hv hev)
    clear hp hv hev hz1 hz2
    generalize Lib.intSat 64 (itx z).data.toList = sat at *
    generalize itx z = s at *
    go_enter Tryz.func110, Tryz.ntmps110
    go_wp2_with fail
    refine Calls.mono Hc.out ?_
    rintro e w1 ⟨N, rfl, -, -, hb⟩
    have Hb := Lib.hid hb
    clear hb
    go_wp2
    go_ret2
    exact ⟨rfl, Hb.out⟩

theorem jz_mul (a b : Int) : jz (decide (a < 0) != decide (b < 0)) (a.natAbs * b.natAbs) = a * b := by
  unfold jz
  rw [Int.natCast_mul]
  by_cases h1 : a < 0
  · have ea : (a.natAbs : Int) = -a := by omega
    rw [decide_eq_true h1, ea]
    by_cases h2 : b < 0
    · have eb : (b.natAbs : Int) = -b := by omega
      rw [decide_eq_true h2, eb, if_neg (by decide), Int.neg_mul_neg]
    · have eb : (b.natAbs : Int) = b := by omega
      rw [decide_eq_false h2, eb, if_pos (by decide), Int.neg_mul, Int.neg_neg]
  · have ea : (a.natAbs : Int) = a := by omega
    rw [decide_eq_false h1, ea]
    by_cases h2 : b < 0
    · have eb : (b.natAbs : Int) = -b := by omega
      rw [decide_eq_true h2, eb, if_pos (by decide), Int.mul_neg, Int.neg_neg]
    · have eb : (b.natAbs : Int) = b := by omega
      rw [decide_eq_false h2, eb, if_neg (by decide)]

set_option maxHeartbeats 4000000 in
theorem mulz_any (w : World) (a b : Int) (ha : ZNum a) (hb : ZNum b) (hab : ZNum (a * b)) (L : Laid w) :
    Gives Tryz.prog 82 #[.string (itx a), .string (itx b)] w (.string (itx (a * b))) := by
  unfold Gives
  have Hl1 := Lib.hid (fun W => littlez_any W a ha 9 (by decide))
  have Hl2 := Lib.hid (fun W => littlez_any W b hb 9 (by decide))
  have Hsa := Lib.hid (fun W => split_any W a)
  have Hsb := Lib.hid (fun W => split_any W b)
  have Hmu : Hid (∀ W, Below w.heap.size w W → Gives Tryz.prog 119 #[.string (dec a.natAbs), .string (dec b.natAbs)] W (.string (dec (a.natAbs * b.natAbs)))) := fun W hW => mul_any W a.natAbs b.natAbs ha hb (L.below hW)
  have Hj : Hid (∀ W, Gives Tryz.prog 78 #[.bool (decide (a < 0) != decide (b < 0)), .string (dec (a.natAbs * b.natAbs))] W (.string (itx (a * b)))) := fun W => by
    have hnm : Num (a.natAbs * b.natAbs) := by have := hab; unfold ZNum at this; rw [Int.natAbs_mul] at this; exact this
    have := join_any W (decide (a < 0) != decide (b < 0)) (a.natAbs * b.natAbs) hnm
    rw [jz_mul] at this
    exact this
  by_cases h1 : (itx a).size ≤ 9
  · rw [if_pos h1] at Hl1
    by_cases h2 : (itx b).size ≤ 9
    · rw [if_pos h2] at Hl2
      have q1 := itx_lim a 9 (by decide) h1
      have q2 := itx_lim b 9 (by decide) h2
      have q3 : (a * b).natAbs ≤ 1000000000 * 1000000000 := by rw [Int.natAbs_mul]; exact Nat.mul_le_mul (by omega) (by omega)
      have q4 : -9223372036854775808 ≤ a * b ∧ a * b ≤ 9223372036854775807 := by omega
      have hwr : IntKind.i64.wrap (a * b) = a * b := IntWalk.i64_in _ q4
      have Hof : Hid (∀ W, Below w.heap.size w W → Gives Tryz.prog 97 #[.int .i64 (a * b)] W (.string (itx (a * b)))) := fun W hW => ofz_any W (a * b) q4.1 q4.2 (L.below hW)
      clear L q1 q2 q3 Hj Hmu Hsa Hsb
      generalize itx a = s at *
      generalize itx b = t at *
      go_enter Tryz.func82, Tryz.ntmps82
      go_wp2_with fail
      refine Calls.mono (Hl1.out w) ?_
      rintro e w1 ⟨rfl, hb1⟩
      have Hb1 := Lib.hid hb1
      clear hb1 Hl1
      go_wp2_with fail
      refine Calls.mono (Hl2.out w1) ?_
      rintro e w2 ⟨rfl, hb2⟩
      have Hb2 := Lib.hid (Hb1.out.trans (hb2.mono Hb1.out.size))
      clear hb2 Hb1 Hl2
      go_wp2_with fail
      refine Calls.mono (Hof.out w2 Hb2.out) ?_
      rintro e w3 ⟨rfl, hb3⟩
      have Hb3 := Lib.hid (Hb2.out.trans (hb3.mono Hb2.out.size))
      clear hb3 Hb2 Hof
      go_wp2
      go_ret
      exact ⟨rfl, Hb3.out⟩
    · rw [if_neg h2] at Hl2
      clear L
      generalize itx a = s at *
      generalize itx b = t at *
      generalize dec (a.natAbs * b.natAbs) = p at *
      generalize dec a.natAbs = sm at *
      generalize dec b.natAbs = tm at *
      generalize decide (a < 0) = na at *
      generalize decide (b < 0) = nb at *
      go_enter Tryz.func82, Tryz.ntmps82
      go_wp2_with fail
      refine Calls.mono (Hl1.out w) ?_
      rintro e w1 ⟨rfl, hb1⟩
      have Hb1 := Lib.hid hb1
      clear hb1 Hl1
      go_wp2_with fail
      refine Calls.mono (Hl2.out w1) ?_
      rintro e w2 ⟨rfl, hb2⟩
      have Hb2 := Lib.hid (Hb1.out.trans (hb2.mono Hb1.out.size))
      clear hb2 Hb1 Hl2
      go_wp2_with fail
      refine Calls.mono (Hsa.out w2) ?_
      rintro e w3 ⟨rfl, hb3⟩
      have Hb3 := Lib.hid (Hb2.out.trans (hb3.mono Hb2.out.size))
      clear hb3 Hb2 Hsa
      go_wp2_with fail
      refine Calls.mono (Hsb.out w3) ?_
      rintro e w4 ⟨rfl, hb4⟩
      have Hb4 := Lib.hid (Hb3.out.trans (hb4.mono Hb3.out.size))
      clear hb4 Hb3 Hsb
      go_wp2_with fail
      refine Calls.mono (Hmu.out w4 Hb4.out) ?_
      rintro e w5 ⟨rfl, hb5⟩
      have Hb5 := Lib.hid (Hb4.out.trans (hb5.mono Hb4.out.size))
      clear hb5 Hb4 Hmu
      go_wp2_with fail
      refine Calls.mono (Hj.out w5) ?_
      rintro e w6 ⟨rfl, hb6⟩
      have Hb6 := Lib.hid (Hb5.out.trans (hb6.mono Hb5.out.size))
      clear hb6 Hb5 Hj
      go_wp2
      go_ret
      exact ⟨rfl, Hb6.out⟩
  · rw [if_neg h1] at Hl1
    clear L Hl2
    generalize itx a = s at *
    generalize itx b = t at *
    generalize dec (a.natAbs * b.natAbs) = p at *
    generalize dec a.natAbs = sm at *
    generalize dec b.natAbs = tm at *
    generalize decide (a < 0) = na at *
    generalize decide (b < 0) = nb at *
    go_enter Tryz.func82, Tryz.ntmps82
    go_wp2_with fail
    refine Calls.mono (Hl1.out w) ?_
    rintro e w2 ⟨rfl, hb2⟩
    have Hb2 := Lib.hid hb2
    clear hb2 Hl1
    go_wp2_with fail
    refine Calls.mono (Hsa.out w2) ?_
    rintro e w3 ⟨rfl, hb3⟩
    have Hb3 := Lib.hid (Hb2.out.trans (hb3.mono Hb2.out.size))
    clear hb3 Hb2 Hsa
    go_wp2_with fail
    refine Calls.mono (Hsb.out w3) ?_
    rintro e w4 ⟨rfl, hb4⟩
    have Hb4 := Lib.hid (Hb3.out.trans (hb4.mono Hb3.out.size))
    clear hb4 Hb3 Hsb
    go_wp2_with fail
    refine Calls.mono (Hmu.out w4 Hb4.out) ?_
    rintro e w5 ⟨rfl, hb5⟩
    have Hb5 := Lib.hid (Hb4.out.trans (hb5.mono Hb4.out.size))
    clear hb5 Hb4 Hmu
    go_wp2_with fail
    refine Calls.mono (Hj.out w5) ?_
    rintro e w6 ⟨rfl, hb6⟩
    have Hb6 := Lib.hid (Hb5.out.trans (hb6.mono Hb5.out.size))
    clear hb6 Hb5 Hj
    go_wp2
    go_ret
    exact ⟨rfl, Hb6.out⟩

end Go.Proofs.YtlomhfknmhaboaaGreatDoor

/- Integers as text: Add, Compare, Check, Gcd, Lcm. (Printed by wip/tools/gen_whoc.py.) -/
namespace Go.Proofs.YtlomhfknmhaboaaGreatDoor
open Go.RowKit

theorem jz_same (a b : Int) (h : decide (a < 0) = decide (b < 0)) : jz (decide (a < 0)) (a.natAbs + b.natAbs) = a + b := by
  unfold jz
  by_cases h1 : a < 0
  · rw [decide_eq_true h1] at h ⊢
    have h2 : b < 0 := by simpa using h.symm
    rw [if_pos rfl]; omega
  · rw [decide_eq_false h1] at h ⊢
    have h2 : ¬ b < 0 := by simpa using h.symm
    rw [if_neg (by decide)]; omega

theorem jz_diff (a b : Int) (h : ¬ decide (a < 0) = decide (b < 0)) (h2 : ¬ a.natAbs < b.natAbs) : jz (decide (a < 0)) (a.natAbs - b.natAbs) = a + b := by
  unfold jz
  by_cases h1 : a < 0
  · rw [decide_eq_true h1] at h ⊢
    have h3 : ¬ b < 0 := fun hb => h (by rw [decide_eq_true hb])
    rw [if_pos rfl]; omega
  · rw [decide_eq_false h1] at h ⊢
    have h3 : b < 0 := by
      rcases Int.lt_or_le b 0 with hb | hb
      · exact hb
      · exact absurd (by rw [decide_eq_false (by omega)]) h
    rw [if_neg (by decide)]; omega

set_option maxHeartbeats 8000000 in
theorem addz_any (w : World) (a b : Int) (ha : ZNum a) (hb : ZNum b) (hab : Num (a.natAbs + b.natAbs)) (L : Laid w) :
    Gives Tryz.prog 104 #[.string (itx a), .string (itx b)] w (.string (itx (a + b))) := by
  unfold Gives
  have Hl1 := Lib.hid (fun W => littlez_any W a ha 18 (by decide))
  have Hl2 := Lib.hid (fun W => littlez_any W b hb 18 (by decide))
  have Hsa := Lib.hid (fun W => split_any W a)
  have Hsb := Lib.hid (fun W => split_any W b)
  have Had : Hid (∀ W, Below w.heap.size w W → Gives Tryz.prog 131 #[.string (dec a.natAbs), .string (dec b.natAbs)] W (.string (dec (a.natAbs + b.natAbs)))) := fun W hW => add_any W a.natAbs b.natAbs ha hb (L.below hW)
  have Hcm := Lib.hid (fun W => compareS_any W a.natAbs b.natAbs (Nat.le_trans ha (by decide)) (Nat.le_trans hb (by decide)))
  have Hsu : Hid (∀ W, Below w.heap.size w W → ¬ a.natAbs < b.natAbs → Gives Tryz.prog 132 #[.string (dec a.natAbs), .string (dec b.natAbs)] W (.tuple #[.string (dec (a.natAbs - b.natAbs)), .int .i64 0])) := fun W hW h => by
    have := sub_any W a.natAbs b.natAbs ha hb (L.below hW)
    rw [if_neg h] at this; exact this
  have Hsv : Hid (∀ W, Below w.heap.size w W → ¬ b.natAbs < a.natAbs → Gives Tryz.prog 132 #[.string (dec b.natAbs), .string (dec a.natAbs)] W (.tuple #[.string (dec (b.natAbs - a.natAbs)), .int .i64 0])) := fun W hW h => by
    have := sub_any W b.natAbs a.natAbs hb ha (L.below hW)
    rw [if_neg h] at this; exact this
  have Hj1 : Hid (decide (a < 0) = decide (b < 0) → ∀ W, Gives Tryz.prog 78 #[.bool (decide (a < 0)), .string (dec (a.natAbs + b.natAbs))] W (.string (itx (a + b)))) := fun h W => by
    have := join_any W (decide (a < 0)) (a.natAbs + b.natAbs) hab
    rw [jz_same a b h] at this
    exact this
  have Hj2 : Hid (¬ decide (a < 0) = decide (b < 0) → ¬ a.natAbs < b.natAbs → ∀ W, Gives Tryz.prog 78 #[.bool (decide (a < 0)), .string (dec (a.natAbs - b.natAbs))] W (.string (itx (a + b)))) := fun h h2 W => by
    have := join_any W (decide (a < 0)) (a.natAbs - b.natAbs) (hab.le (by omega))
    rw [jz_diff a b h h2] at this
    exact this
  have Hj3 : Hid (¬ decide (a < 0) = decide (b < 0) → ¬ b.natAbs < a.natAbs → ∀ W, Gives Tryz.prog 78 #[.bool (decide (b < 0)), .string (dec (b.natAbs - a.natAbs))] W (.string (itx (a + b)))) := fun h h2 W => by
    have := join_any W (decide (b < 0)) (b.natAbs - a.natAbs) (hab.le (by omega))
    rw [jz_diff b a (fun e => h e.symm) h2, Int.add_comm b a] at this
    exact this
  by_cases h1 : (itx a).size ≤ 18
  · rw [if_pos h1] at Hl1
    by_cases h2 : (itx b).size ≤ 18
    · rw [if_pos h2] at Hl2
      have q1 := itx_lim a 18 (by decide) h1
      have q2 := itx_lim b 18 (by decide) h2
      have q4 : -9223372036854775808 ≤ a + b ∧ a + b ≤ 9223372036854775807 := by omega
      have hwr : IntKind.i64.wrap (a + b) = a + b := IntWalk.i64_in _ q4
      have Hof : Hid (∀ W, Below w.heap.size w W → Gives Tryz.prog 97 #[.int .i64 (a + b)] W (.string (itx (a + b)))) := fun W hW => ofz_any W (a + b) q4.1 q4.2 (L.below hW)
      clear L q1 q2 Hj1 Hj2 Hj3 Had Hsu Hsv Hsa Hsb Hcm
      generalize itx a = s at *
      generalize itx b = t at *
      go_enter Tryz.func104, Tryz.ntmps104
      go_wp2_with fail
      refine Calls.mono (Hl1.out w) ?_
      rintro e w1 ⟨rfl, hb1⟩
      have Hb1 := Lib.hid hb1
      clear hb1 Hl1
      go_wp2_with fail
      refine Calls.mono (Hl2.out w1) ?_
      rintro e w2 ⟨rfl, hb2⟩
      have Hb2 := Lib.hid (Hb1.out.trans (hb2.mono Hb1.out.size))
      clear hb2 Hb1 Hl2
      go_wp2_with fail
      refine Calls.mono (Hof.out w2 Hb2.out) ?_
      rintro e w3 ⟨rfl, hb3⟩
      have Hb3 := Lib.hid (Hb2.out.trans (hb3.mono Hb2.out.size))
      clear hb3 Hb2 Hof
      go_wp2
      go_ret
      exact ⟨rfl, Hb3.out⟩
    · rw [if_neg h2] at Hl2
      clear L
      by_cases hs : decide (a < 0) = decide (b < 0)
      · have Hj := Lib.hid (Hj1.out hs)
        clear Hj1 Hj2 Hj3 Hcm Hsu Hsv
        rw [← hs] at Hsb
        clear hs
        generalize itx a = s at *
        generalize itx b = t at *
        generalize dec (a.natAbs + b.natAbs) = pa at *
        generalize dec (a.natAbs - b.natAbs) = ps at *
        generalize dec (b.natAbs - a.natAbs) = pt at *
        generalize dec a.natAbs = sm at *
        generalize dec b.natAbs = tm at *
        generalize decide (a < 0) = na at *
        go_enter Tryz.func104, Tryz.ntmps104
        go_wp2_with fail
        refine Calls.mono (Hl1.out w) ?_
        rintro e w1 ⟨rfl, hb1⟩
        have Hb1 := Lib.hid hb1
        clear hb1 Hl1
        go_wp2_with fail
        refine Calls.mono (Hl2.out w1) ?_
        rintro e w2 ⟨rfl, hb2⟩
        have Hb2 := Lib.hid (Hb1.out.trans (hb2.mono Hb1.out.size))
        clear hb2 Hb1 Hl2
        go_wp2_with fail
        refine Calls.mono (Hsa.out w2) ?_
        rintro e w3 ⟨rfl, hb3⟩
        have Hb3 := Lib.hid (Hb2.out.trans (hb3.mono Hb2.out.size))
        clear hb3 Hb2 Hsa
        go_wp2_with fail
        refine Calls.mono (Hsb.out w3) ?_
        rintro e w4 ⟨rfl, hb4⟩
        have Hb4 := Lib.hid (Hb3.out.trans (hb4.mono Hb3.out.size))
        clear hb4 Hb3 Hsb
        go_wp2_with fail
        refine Calls.mono (Had.out w4 Hb4.out) ?_
        rintro e w5 ⟨rfl, hb5⟩
        have Hb5 := Lib.hid (Hb4.out.trans (hb5.mono Hb4.out.size))
        clear hb5 Hb4 Had
        go_wp2_with fail
        refine Calls.mono (Hj.out w5) ?_
        rintro e w6 ⟨rfl, hb6⟩
        have Hb6 := Lib.hid (Hb5.out.trans (hb6.mono Hb5.out.size))
        clear hb6 Hb5 Hj
        go_wp2
        go_ret
        exact ⟨rfl, Hb6.out⟩
      · by_cases hc : a.natAbs < b.natAbs
        · have Hj := Lib.hid (Hj3.out hs (by omega))
          have Hss := Lib.hid (fun W hW => Hsv.out W hW (by omega))
          have hcv : cmpN a.natAbs b.natAbs = -1 := by unfold cmpN; rw [if_pos hc]
          rw [hcv] at Hcm
          have hnb : (decide (a < 0) == decide (b < 0)) = false := by rw [beq_eq_false_iff_ne]; exact hs
          clear Hj1 Hj2 Hj3 Had Hsu Hsv hcv hs hc
          generalize itx a = s at *
          generalize itx b = t at *
          generalize dec (a.natAbs + b.natAbs) = pa at *
          generalize dec (a.natAbs - b.natAbs) = ps at *
          generalize dec (b.natAbs - a.natAbs) = pt at *
          generalize dec a.natAbs = sm at *
          generalize dec b.natAbs = tm at *
          generalize decide (a < 0) = na at *
          generalize decide (b < 0) = nb at *
          go_enter Tryz.func104, Tryz.ntmps104
          go_wp2_with fail
          refine Calls.mono (Hl1.out w) ?_
          rintro e w1 ⟨rfl, hb1⟩
          have Hb1 := Lib.hid hb1
          clear hb1 Hl1
          go_wp2_with fail
          refine Calls.mono (Hl2.out w1) ?_
          rintro e w2 ⟨rfl, hb2⟩
          have Hb2 := Lib.hid (Hb1.out.trans (hb2.mono Hb1.out.size))
          clear hb2 Hb1 Hl2
          go_wp2_with fail
          refine Calls.mono (Hsa.out w2) ?_
          rintro e w3 ⟨rfl, hb3⟩
          have Hb3 := Lib.hid (Hb2.out.trans (hb3.mono Hb2.out.size))
          clear hb3 Hb2 Hsa
          go_wp2_with fail
          refine Calls.mono (Hsb.out w3) ?_
          rintro e w4 ⟨rfl, hb4⟩
          have Hb4 := Lib.hid (Hb3.out.trans (hb4.mono Hb3.out.size))
          clear hb4 Hb3 Hsb
          go_wp2_with fail
          refine Calls.mono (Hcm.out w4) ?_
          rintro e w5 ⟨rfl, hb5⟩
          have Hb5 := Lib.hid (Hb4.out.trans (hb5.mono Hb4.out.size))
          clear hb5 Hb4 Hcm
          go_wp2_with fail
          refine Calls.mono (Hss.out w5 Hb5.out) ?_
          rintro e w6 ⟨rfl, hb6⟩
          have Hb6 := Lib.hid (Hb5.out.trans (hb6.mono Hb5.out.size))
          clear hb6 Hb5 Hss
          go_wp2_with fail
          refine Calls.mono (Hj.out w6) ?_
          rintro e w7 ⟨rfl, hb7⟩
          have Hb7 := Lib.hid (Hb6.out.trans (hb7.mono Hb6.out.size))
          clear hb7 Hb6 Hj
          go_wp2
          go_ret
          exact ⟨rfl, Hb7.out⟩
        · have Hj := Lib.hid (Hj2.out hs hc)
          have Hss := Lib.hid (fun W hW => Hsu.out W hW hc)
          have hcn : ¬ cmpN a.natAbs b.natAbs < 0 := by unfold cmpN; rw [if_neg hc]; split <;> omega
          have hnb : (decide (a < 0) == decide (b < 0)) = false := by rw [beq_eq_false_iff_ne]; exact hs
          clear Hj1 Hj2 Hj3 Had Hsu Hsv hs hc
          generalize cmpN a.natAbs b.natAbs = cn at *
          generalize itx a = s at *
          generalize itx b = t at *
          generalize dec (a.natAbs + b.natAbs) = pa at *
          generalize dec (a.natAbs - b.natAbs) = ps at *
          generalize dec (b.natAbs - a.natAbs) = pt at *
          generalize dec a.natAbs = sm at *
          generalize dec b.natAbs = tm at *
          generalize decide (a < 0) = na at *
          generalize decide (b < 0) = nb at *
          go_enter Tryz.func104, Tryz.ntmps104
          go_wp2_with fail
          refine Calls.mono (Hl1.out w) ?_
          rintro e w1 ⟨rfl, hb1⟩
          have Hb1 := Lib.hid hb1
          clear hb1 Hl1
          go_wp2_with fail
          refine Calls.mono (Hl2.out w1) ?_
          rintro e w2 ⟨rfl, hb2⟩
          have Hb2 := Lib.hid (Hb1.out.trans (hb2.mono Hb1.out.size))
          clear hb2 Hb1 Hl2
          go_wp2_with fail
          refine Calls.mono (Hsa.out w2) ?_
          rintro e w3 ⟨rfl, hb3⟩
          have Hb3 := Lib.hid (Hb2.out.trans (hb3.mono Hb2.out.size))
          clear hb3 Hb2 Hsa
          go_wp2_with fail
          refine Calls.mono (Hsb.out w3) ?_
          rintro e w4 ⟨rfl, hb4⟩
          have Hb4 := Lib.hid (Hb3.out.trans (hb4.mono Hb3.out.size))
          clear hb4 Hb3 Hsb
          go_wp2_with fail
          refine Calls.mono (Hcm.out w4) ?_
          rintro e w5 ⟨rfl, hb5⟩
          have Hb5 := Lib.hid (Hb4.out.trans (hb5.mono Hb4.out.size))
          clear hb5 Hb4 Hcm
          go_wp2_with fail
          refine Calls.mono (Hss.out w5 Hb5.out) ?_
          rintro e w6 ⟨rfl, hb6⟩
          have Hb6 := Lib.hid (Hb5.out.trans (hb6.mono Hb5.out.size))
          clear hb6 Hb5 Hss
          go_wp2_with fail
          refine Calls.mono (Hj.out w6) ?_
          rintro e w7 ⟨rfl, hb7⟩
          have Hb7 := Lib.hid (Hb6.out.trans (hb7.mono Hb6.out.size))
          clear hb7 Hb6 Hj
          go_wp2
          go_ret
          exact ⟨rfl, Hb7.out⟩
  · rw [if_neg h1] at Hl1
    clear L Hl2
    by_cases hs : decide (a < 0) = decide (b < 0)
    · have Hj := Lib.hid (Hj1.out hs)
      clear Hj1 Hj2 Hj3 Hcm Hsu Hsv
      rw [← hs] at Hsb
      clear hs
      generalize itx a = s at *
      generalize itx b = t at *
      generalize dec (a.natAbs + b.natAbs) = pa at *
      generalize dec (a.natAbs - b.natAbs) = ps at *
      generalize dec (b.natAbs - a.natAbs) = pt at *
      generalize dec a.natAbs = sm at *
      generalize dec b.natAbs = tm at *
      generalize decide (a < 0) = na at *
      go_enter Tryz.func104, Tryz.ntmps104
      go_wp2_with fail
      refine Calls.mono (Hl1.out w) ?_
      rintro e w1 ⟨rfl, hb1⟩
      have Hb1 := Lib.hid hb1
      clear hb1 Hl1
      go_wp2_with fail
      refine Calls.mono (Hsa.out w1) ?_
      rintro e w2 ⟨rfl, hb2⟩
      have Hb2 := Lib.hid (Hb1.out.trans (hb2.mono Hb1.out.size))
      clear hb2 Hb1 Hsa
      go_wp2_with fail
      refine Calls.mono (Hsb.out w2) ?_
      rintro e w3 ⟨rfl, hb3⟩
      have Hb3 := Lib.hid (Hb2.out.trans (hb3.mono Hb2.out.size))
      clear hb3 Hb2 Hsb
      go_wp2_with fail
      refine Calls.mono (Had.out w3 Hb3.out) ?_
      rintro e w4 ⟨rfl, hb4⟩
      have Hb4 := Lib.hid (Hb3.out.trans (hb4.mono Hb3.out.size))
      clear hb4 Hb3 Had
      go_wp2_with fail
      refine Calls.mono (Hj.out w4) ?_
      rintro e w5 ⟨rfl, hb5⟩
      have Hb5 := Lib.hid (Hb4.out.trans (hb5.mono Hb4.out.size))
      clear hb5 Hb4 Hj
      go_wp2
      go_ret
      exact ⟨rfl, Hb5.out⟩
    · by_cases hc : a.natAbs < b.natAbs
      · have Hj := Lib.hid (Hj3.out hs (by omega))
        have Hss := Lib.hid (fun W hW => Hsv.out W hW (by omega))
        have hcv : cmpN a.natAbs b.natAbs = -1 := by unfold cmpN; rw [if_pos hc]
        rw [hcv] at Hcm
        have hnb : (decide (a < 0) == decide (b < 0)) = false := by rw [beq_eq_false_iff_ne]; exact hs
        clear Hj1 Hj2 Hj3 Had Hsu Hsv hcv hs hc
        generalize itx a = s at *
        generalize itx b = t at *
        generalize dec (a.natAbs + b.natAbs) = pa at *
        generalize dec (a.natAbs - b.natAbs) = ps at *
        generalize dec (b.natAbs - a.natAbs) = pt at *
        generalize dec a.natAbs = sm at *
        generalize dec b.natAbs = tm at *
        generalize decide (a < 0) = na at *
        generalize decide (b < 0) = nb at *
        go_enter Tryz.func104, Tryz.ntmps104
        go_wp2_with fail
        refine Calls.mono (Hl1.out w) ?_
        rintro e w1 ⟨rfl, hb1⟩
        have Hb1 := Lib.hid hb1
        clear hb1 Hl1
        go_wp2_with fail
        refine Calls.mono (Hsa.out w1) ?_
        rintro e w2 ⟨rfl, hb2⟩
        have Hb2 := Lib.hid (Hb1.out.trans (hb2.mono Hb1.out.size))
        clear hb2 Hb1 Hsa
        go_wp2_with fail
        refine Calls.mono (Hsb.out w2) ?_
        rintro e w3 ⟨rfl, hb3⟩
        have Hb3 := Lib.hid (Hb2.out.trans (hb3.mono Hb2.out.size))
        clear hb3 Hb2 Hsb
        go_wp2_with fail
        refine Calls.mono (Hcm.out w3) ?_
        rintro e w4 ⟨rfl, hb4⟩
        have Hb4 := Lib.hid (Hb3.out.trans (hb4.mono Hb3.out.size))
        clear hb4 Hb3 Hcm
        go_wp2_with fail
        refine Calls.mono (Hss.out w4 Hb4.out) ?_
        rintro e w5 ⟨rfl, hb5⟩
        have Hb5 := Lib.hid (Hb4.out.trans (hb5.mono Hb4.out.size))
        clear hb5 Hb4 Hss
        go_wp2_with fail
        refine Calls.mono (Hj.out w5) ?_
        rintro e w6 ⟨rfl, hb6⟩
        have Hb6 := Lib.hid (Hb5.out.trans (hb6.mono Hb5.out.size))
        clear hb6 Hb5 Hj
        go_wp2
        go_ret
        exact ⟨rfl, Hb6.out⟩
      · have Hj := Lib.hid (Hj2.out hs hc)
        have Hss := Lib.hid (fun W hW => Hsu.out W hW hc)
        have hcn : ¬ cmpN a.natAbs b.natAbs < 0 := by unfold cmpN; rw [if_neg hc]; split <;> omega
        have hnb : (decide (a < 0) == decide (b < 0)) = false := by rw [beq_eq_false_iff_ne]; exact hs
        clear Hj1 Hj2 Hj3 Had Hsu Hsv hs hc
        generalize cmpN a.natAbs b.natAbs = cn at *
        generalize itx a = s at *
        generalize itx b = t at *
        generalize dec (a.natAbs + b.natAbs) = pa at *
        generalize dec (a.natAbs - b.natAbs) = ps at *
        generalize dec (b.natAbs - a.natAbs) = pt at *
        generalize dec a.natAbs = sm at *
        generalize dec b.natAbs = tm at *
        generalize decide (a < 0) = na at *
        generalize decide (b < 0) = nb at *
        go_enter Tryz.func104, Tryz.ntmps104
        go_wp2_with fail
        refine Calls.mono (Hl1.out w) ?_
        rintro e w1 ⟨rfl, hb1⟩
        have Hb1 := Lib.hid hb1
        clear hb1 Hl1
        go_wp2_with fail
        refine Calls.mono (Hsa.out w1) ?_
        rintro e w2 ⟨rfl, hb2⟩
        have Hb2 := Lib.hid (Hb1.out.trans (hb2.mono Hb1.out.size))
        clear hb2 Hb1 Hsa
        go_wp2_with fail
        refine Calls.mono (Hsb.out w2) ?_
        rintro e w3 ⟨rfl, hb3⟩
        have Hb3 := Lib.hid (Hb2.out.trans (hb3.mono Hb2.out.size))
        clear hb3 Hb2 Hsb
        go_wp2_with fail
        refine Calls.mono (Hcm.out w3) ?_
        rintro e w4 ⟨rfl, hb4⟩
        have Hb4 := Lib.hid (Hb3.out.trans (hb4.mono Hb3.out.size))
        clear hb4 Hb3 Hcm
        go_wp2_with fail
        refine Calls.mono (Hss.out w4 Hb4.out) ?_
        rintro e w5 ⟨rfl, hb5⟩
        have Hb5 := Lib.hid (Hb4.out.trans (hb5.mono Hb4.out.size))
        clear hb5 Hb4 Hss
        go_wp2_with fail
        refine Calls.mono (Hj.out w5) ?_
        rintro e w6 ⟨rfl, hb6⟩
        have Hb6 := Lib.hid (Hb5.out.trans (hb6.mono Hb5.out.size))
        clear hb6 Hb5 Hj
        go_wp2
        go_ret
        exact ⟨rfl, Hb6.out⟩

theorem canon_itx (n : Nat) : Canon (lb (dec n)) := by rw [lb_dec]; exact dec_canon n

set_option maxHeartbeats 4000000 in
theorem checkz_any (w : World) (z : Int) (hz : ZNum z) :
    Gives Tryz.prog 33 #[.string (itx z)] w (.int .i64 (if (dec z.natAbs).size ≤ 400 then 0 else 2)) := by
  unfold Gives
  have Hs := Lib.hid (split_any w z)
  have Hc := Lib.hid (fun W => check_any W (dec z.natAbs) (Nat.le_trans hz (by decide)))
  have hzz := is_zero z.natAbs
  have hcan := canon_itx z.natAbs
  by_cases h4 : (dec z.natAbs).size ≤ 400
  · rw [if_pos ⟨hcan, h4⟩] at Hc
    rw [if_pos h4]
    clear hcan h4
    by_cases hn : z < 0
    · rw [decide_eq_true hn] at Hs
      rw [decide_eq_false (show ¬ z.natAbs = 0 by omega)] at hzz
      clear hn
      generalize itx z = s at *
      generalize dec z.natAbs = t at *
      go_enter Tryz.func33, Tryz.ntmps33
      go_wp2_with fail
      refine Calls.mono (Hs.out) ?_
      rintro e w1 ⟨rfl, hb1⟩
      have Hb1 := Lib.hid hb1
      clear hb1 Hs
      go_wp2_with fail
      refine Calls.mono (Hc.out w1) ?_
      rintro e w2 ⟨rfl, hb2⟩
      have Hb2 := Lib.hid (Hb1.out.trans (hb2.mono Hb1.out.size))
      clear hb2 Hb1 Hc
      go_wp2
      go_ret
      exact ⟨rfl, Hb2.out⟩
    · rw [decide_eq_false hn] at Hs
      clear hn hzz
      generalize itx z = s at *
      generalize dec z.natAbs = t at *
      go_enter Tryz.func33, Tryz.ntmps33
      go_wp2_with fail
      refine Calls.mono (Hs.out) ?_
      rintro e w1 ⟨rfl, hb1⟩
      have Hb1 := Lib.hid hb1
      clear hb1 Hs
      go_wp2_with fail
      refine Calls.mono (Hc.out w1) ?_
      rintro e w2 ⟨rfl, hb2⟩
      have Hb2 := Lib.hid (Hb1.out.trans (hb2.mono Hb1.out.size))
      clear hb2 Hb1 Hc
      go_wp2
      go_ret
      exact ⟨rfl, Hb2.out⟩
  · rw [if_neg (fun h => h4 h.2)] at Hc
    rw [if_neg h4]
    clear hcan h4
    by_cases hn : z < 0
    · rw [decide_eq_true hn] at Hs
      rw [decide_eq_false (show ¬ z.natAbs = 0 by omega)] at hzz
      clear hn
      generalize itx z = s at *
      generalize dec z.natAbs = t at *
      go_enter Tryz.func33, Tryz.ntmps33
      go_wp2_with fail
      refine Calls.mono (Hs.out) ?_
      rintro e w1 ⟨rfl, hb1⟩
      have Hb1 := Lib.hid hb1
      clear hb1 Hs
      go_wp2_with fail
      refine Calls.mono (Hc.out w1) ?_
      rintro e w2 ⟨rfl, hb2⟩
      have Hb2 := Lib.hid (Hb1.out.trans (hb2.mono Hb1.out.size))
      clear hb2 Hb1 Hc
      go_wp2
      go_ret
      exact ⟨rfl, Hb2.out⟩
    · rw [decide_eq_false hn] at Hs
      clear hn hzz
      generalize itx z = s at *
      generalize dec z.natAbs = t at *
      go_enter Tryz.func33, Tryz.ntmps33
      go_wp2_with fail
      refine Calls.mono (Hs.out) ?_
      rintro e w1 ⟨rfl, hb1⟩
      have Hb1 := Lib.hid hb1
      clear hb1 Hs
      go_wp2_with fail
      refine Calls.mono (Hc.out w1) ?_
      rintro e w2 ⟨rfl, hb2⟩
      have Hb2 := Lib.hid (Hb1.out.trans (hb2.mono Hb1.out.size))
      clear hb2 Hb1 Hc
      go_wp2
      go_ret
      exact ⟨rfl, Hb2.out⟩

set_option maxHeartbeats 4000000 in
theorem gcdi_any (w : World) (a b : Nat) (ha : a < 9223372036854775808) (hb : b < 9223372036854775808) :
    Gives Tryz.prog 98 #[.int .i64 a, .int .i64 b] w (.int .i64 (Nat.gcd a b : Nat)) := by
  unfold Gives
  go_enter Tryz.func98, Tryz.ntmps98
  go_wp2_with fail
  go_loopw [0, 1] (fun p q wr => ∃ x y : Nat, x < 9223372036854775808 ∧ y < 9223372036854775808 ∧ p = .int .i64 x ∧ q = .int .i64 y ∧ Hid (Nat.gcd x y = Nat.gcd a b) ∧ Hid (Below w.heap.size w wr)) (fun _ q _ => (intOf q).toNat)
  case atStart => exact ⟨a, b, ha, hb, rfl, rfl, rfl, Below.refl _ _⟩
  case round =>
    obtain ⟨x, y, hx, hy, rfl, rfl, Hg, Hb⟩ := hrel
    by_cases h0 : y = 0
    · have Hv : Hid (x = Nat.gcd a b) := by
        show _ = _
        rw [← Hg.out, h0, Nat.gcd_zero_right]
      subst h0
      go_wp2
      go_ret
      exact ⟨by rw [← Hv.out]; rfl, Hb.out⟩
    · have hyz : ((y : Int) == 0) = false := by rw [beq_eq_false_iff_ne]; omega
      have htm : Int.tmod (x : Int) (y : Int) = ((x % y : Nat) : Int) := by rw [← Int.ofNat_tmod]
      have hlt : x % y < y := Nat.mod_lt _ (by omega)
      have hwr : IntKind.i64.wrap ((x % y : Nat) : Int) = ((x % y : Nat) : Int) := IntWalk.i64_in _ (by omega)
      have Hg2 : Hid (Nat.gcd y (x % y) = Nat.gcd a b) := (gcd_step x y).trans Hg.out
      have hyi : ¬ (y : Int) = 0 := by omega
      clear h0
      generalize x % y = r at *
      go_wp2_with fail
      go_quiet (fail)
      go_wp2
      go_roundw
      case rel => exact ⟨y, r, hy, by omega, rfl, rfl, Hg2, below_dn Hb.out _⟩
      case measure => simp [intOf]; omega

theorem dec_itx (n : Nat) : dec n = itx (n : Int) := (itx_nat n).symm

set_option maxHeartbeats 4000000 in
theorem littleD_any (w : World) (n : Nat) (hn : Num n) (most : Nat) (hm : most ≤ 18) :
    Gives Tryz.prog 96 #[.string (dec n), .int .i64 most] w (if (dec n).size ≤ most then .tuple #[.int .i64 n, .bool true] else .tuple #[.int .i64 0, .bool false]) := by
  have := littlez_any w (n : Int) (by show Num _; exact hn) most hm
  rw [itx_nat] at this
  exact this

set_option maxHeartbeats 8000000 in
theorem gcdz_any (w : World) (a b : Int) (ha : ZNum a) (hb : ZNum b) (L : Laid w) :
    Gives Tryz.prog 55 #[.string (itx a), .string (itx b)] w (.string (dec (Int.gcd a b))) := by
  unfold Gives
  have Ha := Lib.hid (fun W => abs_any W a)
  have Hb' := Lib.hid (fun W => abs_any W b)
  have Hl1 := Lib.hid (fun W => littleD_any W a.natAbs ha 18 (by decide))
  have Hl2 := Lib.hid (fun W => littleD_any W b.natAbs hb 18 (by decide))
  have Hgd : Hid (∀ W, Below w.heap.size w W → Gives Tryz.prog 99 #[.string (dec a.natAbs), .string (dec b.natAbs)] W (.string (dec (Int.gcd a b)))) := fun W hW => gcd_any W a.natAbs b.natAbs ha hb (L.below hW)
  by_cases h1 : (dec a.natAbs).size ≤ 18
  · rw [if_pos h1] at Hl1
    by_cases h2 : (dec b.natAbs).size ≤ 18
    · rw [if_pos h2] at Hl2
      have q1 := (dec_small18 a.natAbs).1 h1
      have q2 := (dec_small18 b.natAbs).1 h2
      have hg : Int.gcd a b < 9223372036854775808 := by
        show Nat.gcd a.natAbs b.natAbs < _
        rcases Nat.eq_zero_or_pos a.natAbs with h | h
        · rw [h, Nat.gcd_zero_left]; omega
        · have := Nat.gcd_le_left b.natAbs h; omega
      have Hgi : Hid (∀ W, Gives Tryz.prog 98 #[.int .i64 a.natAbs, .int .i64 b.natAbs] W (.int .i64 (Int.gcd a b : Nat))) := fun W => gcdi_any W a.natAbs b.natAbs (by omega) (by omega)
      have Hof : Hid (∀ W, Below w.heap.size w W → Gives Tryz.prog 97 #[.int .i64 (Int.gcd a b : Nat)] W (.string (dec (Int.gcd a b)))) := fun W hW => by
        have := ofz_any W (Int.gcd a b : Nat) (by omega) (by omega) (L.below hW)
        rw [itx_nat] at this
        exact this
      clear L Hgd hg
      generalize itx a = s at *
      generalize itx b = t at *
      generalize dec (Int.gcd a b) = d at *
      generalize dec a.natAbs = sm at *
      generalize dec b.natAbs = tm at *
      generalize Int.gcd a b = g at *
      generalize a.natAbs = x at *
      generalize b.natAbs = y at *
      go_enter Tryz.func55, Tryz.ntmps55
      go_wp2_with fail
      refine Calls.mono (Ha.out w) ?_
      rintro e w1 ⟨rfl, hb1⟩
      have Hb1 := Lib.hid hb1
      clear hb1 Ha
      go_wp2_with fail
      refine Calls.mono (Hb'.out w1) ?_
      rintro e w2 ⟨rfl, hb2⟩
      have Hb2 := Lib.hid (Hb1.out.trans (hb2.mono Hb1.out.size))
      clear hb2 Hb1 Hb'
      go_wp2_with fail
      refine Calls.mono (Hl1.out w2) ?_
      rintro e w3 ⟨rfl, hb3⟩
      have Hb3 := Lib.hid (Hb2.out.trans (hb3.mono Hb2.out.size))
      clear hb3 Hb2 Hl1
      go_wp2_with fail
      refine Calls.mono (Hl2.out w3) ?_
      rintro e w4 ⟨rfl, hb4⟩
      have Hb4 := Lib.hid (Hb3.out.trans (hb4.mono Hb3.out.size))
      clear hb4 Hb3 Hl2
      go_wp2_with fail
      refine Calls.mono (Hgi.out w4) ?_
      rintro e w5 ⟨rfl, hb5⟩
      have Hb5 := Lib.hid (Hb4.out.trans (hb5.mono Hb4.out.size))
      clear hb5 Hb4 Hgi
      go_wp2_with fail
      refine Calls.mono (Hof.out w5 Hb5.out) ?_
      rintro e w6 ⟨rfl, hb6⟩
      have Hb6 := Lib.hid (Hb5.out.trans (hb6.mono Hb5.out.size))
      clear hb6 Hb5 Hof
      go_wp2
      go_ret
      exact ⟨rfl, Hb6.out⟩
    · rw [if_neg h2] at Hl2
      clear L
      generalize itx a = s at *
      generalize itx b = t at *
      generalize dec (Int.gcd a b) = d at *
      generalize dec a.natAbs = sm at *
      generalize dec b.natAbs = tm at *
      go_enter Tryz.func55, Tryz.ntmps55
      go_wp2_with fail
      refine Calls.mono (Ha.out w) ?_
      rintro e w1 ⟨rfl, hb1⟩
      have Hb1 := Lib.hid hb1
      clear hb1 Ha
      go_wp2_with fail
      refine Calls.mono (Hb'.out w1) ?_
      rintro e w2 ⟨rfl, hb2⟩
      have Hb2 := Lib.hid (Hb1.out.trans (hb2.mono Hb1.out.size))
      clear hb2 Hb1 Hb'
      go_wp2_with fail
      refine Calls.mono (Hl1.out w2) ?_
      rintro e w3 ⟨rfl, hb3⟩
      have Hb3 := Lib.hid (Hb2.out.trans (hb3.mono Hb2.out.size))
      clear hb3 Hb2 Hl1
      go_wp2_with fail
      refine Calls.mono (Hl2.out w3) ?_
      rintro e w4 ⟨rfl, hb4⟩
      have Hb4 := Lib.hid (Hb3.out.trans (hb4.mono Hb3.out.size))
      clear hb4 Hb3 Hl2
      go_wp2_with fail
      refine Calls.mono (Hgd.out w4 Hb4.out) ?_
      rintro e w5 ⟨rfl, hb5⟩
      have Hb5 := Lib.hid (Hb4.out.trans (hb5.mono Hb4.out.size))
      clear hb5 Hb4 Hgd
      go_wp2
      go_ret
      exact ⟨rfl, Hb5.out⟩
  · rw [if_neg h1] at Hl1
    clear L Hl2
    generalize itx a = s at *
    generalize itx b = t at *
    generalize dec (Int.gcd a b) = d at *
    generalize dec a.natAbs = sm at *
    generalize dec b.natAbs = tm at *
    go_enter Tryz.func55, Tryz.ntmps55
    go_wp2_with fail
    refine Calls.mono (Ha.out w) ?_
    rintro e w1 ⟨rfl, hb1⟩
    have Hb1 := Lib.hid hb1
    clear hb1 Ha
    go_wp2_with fail
    refine Calls.mono (Hb'.out w1) ?_
    rintro e w2 ⟨rfl, hb2⟩
    have Hb2 := Lib.hid (Hb1.out.trans (hb2.mono Hb1.out.size))
    clear hb2 Hb1 Hb'
    go_wp2_with fail
    refine Calls.mono (Hl1.out w2) ?_
    rintro e w3 ⟨rfl, hb3⟩
    have Hb3 := Lib.hid (Hb2.out.trans (hb3.mono Hb2.out.size))
    clear hb3 Hb2 Hl1
    go_wp2_with fail
    refine Calls.mono (Hgd.out w3 Hb3.out) ?_
    rintro e w4 ⟨rfl, hb4⟩
    have Hb4 := Lib.hid (Hb3.out.trans (hb4.mono Hb3.out.size))
    clear hb4 Hb3 Hgd
    go_wp2
    go_ret
    exact ⟨rfl, Hb4.out⟩

set_option maxHeartbeats 4000000 in
theorem lcmz_any (w : World) (a b : Int) (ha : ZNum a) (hb : ZNum b) (L : Laid w) :
    Gives Tryz.prog 106 #[.string (itx a), .string (itx b)] w (.string (dec (Int.lcm a b))) := by
  unfold Gives
  have Ha := Lib.hid (fun W => abs_any W a)
  have Hb' := Lib.hid (fun W => abs_any W b)
  have Hlc : Hid (∀ W, Below w.heap.size w W → Gives Tryz.prog 133 #[.string (dec a.natAbs), .string (dec b.natAbs)] W (.string (dec (Int.lcm a b)))) := fun W hW => lcm_any W a.natAbs b.natAbs ha hb (L.below hW)
  clear L
  generalize itx a = s at *
  generalize itx b = t at *
  generalize dec (Int.lcm a b) = d at *
  generalize dec a.natAbs = sm at *
  generalize dec b.natAbs = tm at *
  go_enter Tryz.func106, Tryz.ntmps106
  go_wp2_with fail
  refine Calls.mono (Ha.out w) ?_
  rintro e w1 ⟨rfl, hb1⟩
  have Hb1 := Lib.hid hb1
  clear hb1 Ha
  go_wp2_with fail
  refine Calls.mono (Hb'.out w1) ?_
  rintro e w2 ⟨rfl, hb2⟩
  have Hb2 := Lib.hid (Hb1.out.trans (hb2.mono Hb1.out.size))
  clear hb2 Hb1 Hb'
  go_wp2_with fail
  refine Calls.mono (Hlc.out w2 Hb2.out) ?_
  rintro e w3 ⟨rfl, hb3⟩
  have Hb3 := Lib.hid (Hb2.out.trans (hb3.mono Hb2.out.size))
  clear hb3 Hb2 Hlc
  go_wp2
  go_ret
  exact ⟨rfl, Hb3.out⟩

end Go.Proofs.YtlomhfknmhaboaaGreatDoor

/- Integers as text: Compare, DivMod. (Printed by wip/tools/gen_whod.py.) -/
namespace Go.Proofs.YtlomhfknmhaboaaGreatDoor
open Go.RowKit

/-- -1, 0 or 1. -/
def cmpZ (a b : Int) : Int := if a < b then -1 else if a = b then 0 else 1

theorem cmp_neg (a b : Int) (ha : a < 0) (hb : b < 0) : cmpN b.natAbs a.natAbs = cmpZ a b := by
  unfold cmpN cmpZ
  by_cases h1 : a < b
  · rw [if_pos h1, if_pos (by omega)]
  · rw [if_neg h1, if_neg (by omega)]
    by_cases h2 : a = b
    · rw [if_pos h2, if_pos (by omega)]
    · rw [if_neg h2, if_neg (by omega)]

theorem cmp_pos (a b : Int) (ha : 0 ≤ a) (hb : 0 ≤ b) : cmpN a.natAbs b.natAbs = cmpZ a b := by
  unfold cmpN cmpZ
  by_cases h1 : a < b
  · rw [if_pos h1, if_pos (by omega)]
  · rw [if_neg h1, if_neg (by omega)]
    by_cases h2 : a = b
    · rw [if_pos h2, if_pos (by omega)]
    · rw [if_neg h2, if_neg (by omega)]

theorem sign_cases (a : Int) : (a < 0 ∧ a.sign = -1) ∨ (a = 0 ∧ a.sign = 0) ∨ (0 < a ∧ a.sign = 1) := by
  rcases Int.lt_trichotomy a 0 with h | h | h
  · exact .inl ⟨h, Int.sign_eq_neg_one_of_neg h⟩
  · subst h; exact .inr (.inl ⟨rfl, rfl⟩)
  · exact .inr (.inr ⟨h, Int.sign_eq_one_of_pos h⟩)

theorem sign_less (a b : Int) (h : a.sign < b.sign) : a < b := by
  rcases sign_cases a with ⟨h1, e1⟩ | ⟨h1, e1⟩ | ⟨h1, e1⟩ <;> rcases sign_cases b with ⟨h2, e2⟩ | ⟨h2, e2⟩ | ⟨h2, e2⟩ <;> omega

theorem sign_same (a b : Int) (h : a.sign = b.sign) : (a < 0 ∧ b < 0) ∨ (0 ≤ a ∧ 0 ≤ b) := by
  rcases sign_cases a with ⟨h1, e1⟩ | ⟨h1, e1⟩ | ⟨h1, e1⟩ <;> rcases sign_cases b with ⟨h2, e2⟩ | ⟨h2, e2⟩ | ⟨h2, e2⟩ <;> omega

set_option maxHeartbeats 4000000 in
theorem comparez_any (w : World) (a b : Int) (ha : ZNum a) (hb : ZNum b) :
    Gives Tryz.prog 183 #[.string (itx a), .string (itx b)] w (.int .i64 (cmpZ a b)) := by
  unfold Gives
  have Hg1 := Lib.hid (fun W => sign_any W a)
  have Hg2 := Lib.hid (fun W => sign_any W b)
  have Hsa := Lib.hid (fun W => split_any W a)
  have Hsb := Lib.hid (fun W => split_any W b)
  have ha' : (dec a.natAbs).size ≤ 10000000 := Nat.le_trans ha (by decide)
  have hb' : (dec b.natAbs).size ≤ 10000000 := Nat.le_trans hb (by decide)
  rcases Int.lt_trichotomy a.sign b.sign with hs | hs | hs
  · have Hv : Hid (cmpZ a b = -1) := by
      show _ = _
      unfold cmpZ; rw [if_pos (sign_less a b hs)]
    have hne : (a.sign != b.sign) = true := by rw [bne_iff_ne]; omega
    rw [Hv.out]
    clear Hsa Hsb
    generalize a.sign = x at *
    generalize b.sign = y at *
    generalize itx a = s at *
    generalize itx b = t at *
    go_enter Tryz.func183, Tryz.ntmps183
    go_wp2_with fail
    refine Calls.mono (Hg1.out w) ?_
    rintro e w1 ⟨rfl, hb1⟩
    have Hb1 := Lib.hid hb1
    clear hb1
    go_wp2_with fail
    refine Calls.mono (Hg2.out w1) ?_
    rintro e w2 ⟨rfl, hb2⟩
    have Hb2 := Lib.hid (Hb1.out.trans (hb2.mono Hb1.out.size))
    clear hb2 Hb1
    go_wp2
    go_ret
    exact ⟨rfl, Hb2.out⟩
  · rcases sign_same a b hs with ⟨h1, h2⟩ | ⟨h1, h2⟩
    · have Hcm := Lib.hid (fun W => compareS_any W b.natAbs a.natAbs hb' ha')
      rw [cmp_neg a b h1 h2] at Hcm
      rw [decide_eq_true h1] at Hsa
      have hne : (b.sign != b.sign) = false := by simp
      rw [hs] at Hg1
      clear hs h1 h2 ha' hb'
      generalize cmpZ a b = c at *
      generalize b.sign = y at *
      generalize itx a = s at *
      generalize itx b = t at *
      generalize dec a.natAbs = sm at *
      generalize dec b.natAbs = tm at *
      go_enter Tryz.func183, Tryz.ntmps183
      go_wp2_with fail
      refine Calls.mono (Hg1.out w) ?_
      rintro e w1 ⟨rfl, hb1⟩
      have Hb1 := Lib.hid hb1
      clear hb1
      go_wp2_with fail
      refine Calls.mono (Hg2.out w1) ?_
      rintro e w2 ⟨rfl, hb2⟩
      have Hb2 := Lib.hid (Hb1.out.trans (hb2.mono Hb1.out.size))
      clear hb2 Hb1
      go_wp2_with fail
      refine Calls.mono (Hsa.out w2) ?_
      rintro e w3 ⟨rfl, hb3⟩
      have Hb3 := Lib.hid (Hb2.out.trans (hb3.mono Hb2.out.size))
      clear hb3 Hb2
      go_wp2_with fail
      refine Calls.mono (Hsb.out w3) ?_
      rintro e w4 ⟨rfl, hb4⟩
      have Hb4 := Lib.hid (Hb3.out.trans (hb4.mono Hb3.out.size))
      clear hb4 Hb3
      go_wp2_with fail
      refine Calls.mono (Hcm.out w4) ?_
      rintro e w5 ⟨rfl, hb5⟩
      have Hb5 := Lib.hid (Hb4.out.trans (hb5.mono Hb4.out.size))
      clear hb5 Hb4
      go_wp2
      go_ret
      exact ⟨rfl, Hb5.out⟩
    · have Hcm := Lib.hid (fun W => compareS_any W a.natAbs b.natAbs ha' hb')
      rw [cmp_pos a b h1 h2] at Hcm
      rw [decide_eq_false (show ¬ a < 0 by omega)] at Hsa
      have hne : (b.sign != b.sign) = false := by simp
      rw [hs] at Hg1
      clear hs h1 h2 ha' hb'
      generalize cmpZ a b = c at *
      generalize b.sign = y at *
      generalize itx a = s at *
      generalize itx b = t at *
      generalize dec a.natAbs = sm at *
      generalize dec b.natAbs = tm at *
      go_enter Tryz.func183, Tryz.ntmps183
      go_wp2_with fail
      refine Calls.mono (Hg1.out w) ?_
      rintro e w1 ⟨rfl, hb1⟩
      have Hb1 := Lib.hid hb1
      clear hb1
      go_wp2_with fail
      refine Calls.mono (Hg2.out w1) ?_
      rintro e w2 ⟨rfl, hb2⟩
      have Hb2 := Lib.hid (Hb1.out.trans (hb2.mono Hb1.out.size))
      clear hb2 Hb1
      go_wp2_with fail
      refine Calls.mono (Hsa.out w2) ?_
      rintro e w3 ⟨rfl, hb3⟩
      have Hb3 := Lib.hid (Hb2.out.trans (hb3.mono Hb2.out.size))
      clear hb3 Hb2
      go_wp2_with fail
      refine Calls.mono (Hsb.out w3) ?_
      rintro e w4 ⟨rfl, hb4⟩
      have Hb4 := Lib.hid (Hb3.out.trans (hb4.mono Hb3.out.size))
      clear hb4 Hb3
      go_wp2_with fail
      refine Calls.mono (Hcm.out w4) ?_
      rintro e w5 ⟨rfl, hb5⟩
      have Hb5 := Lib.hid (Hb4.out.trans (hb5.mono Hb4.out.size))
      clear hb5 Hb4
      go_wp2
      go_ret
      exact ⟨rfl, Hb5.out⟩
  · have Hv : Hid (cmpZ a b = 1) := by
      show _ = _
      have := sign_less b a hs
      unfold cmpZ; rw [if_neg (by omega), if_neg (by omega)]
    have hne : (a.sign != b.sign) = true := by rw [bne_iff_ne]; omega
    rw [Hv.out]
    clear Hsa Hsb
    generalize a.sign = x at *
    generalize b.sign = y at *
    generalize itx a = s at *
    generalize itx b = t at *
    go_enter Tryz.func183, Tryz.ntmps183
    go_wp2_with fail
    refine Calls.mono (Hg1.out w) ?_
    rintro e w1 ⟨rfl, hb1⟩
    have Hb1 := Lib.hid hb1
    clear hb1
    go_wp2_with fail
    refine Calls.mono (Hg2.out w1) ?_
    rintro e w2 ⟨rfl, hb2⟩
    have Hb2 := Lib.hid (Hb1.out.trans (hb2.mono Hb1.out.size))
    clear hb2 Hb1
    go_wp2
    go_ret
    exact ⟨rfl, Hb2.out⟩

theorem ediv_nat (n b : Nat) : (n : Int) / (b : Int) = ((n / b : Nat) : Int) ∧ (n : Int) % (b : Int) = ((n % b : Nat) : Int) := ⟨rfl, rfl⟩

theorem ediv_neg_exact (n b : Nat) (hb : 0 < b) (h : n % b = 0) : -(n : Int) / (b : Int) = -((n / b : Nat) : Int) ∧ -(n : Int) % (b : Int) = 0 := by
  rw [Int.ediv_emod_unique (by omega)]
  have h1 := Nat.div_add_mod n b
  rw [h] at h1
  have h2 : ((b * (n / b) + 0 : Nat) : Int) = (n : Int) := congrArg Nat.cast h1
  rw [Nat.add_zero, Int.natCast_mul] at h2
  refine ⟨?_, by omega, by omega⟩
  rw [Int.mul_neg, h2]; omega

theorem ediv_neg_rest (n b : Nat) (hb : 0 < b) (h : n % b ≠ 0) : -(n : Int) / (b : Int) = -((n / b : Nat) : Int) - 1 ∧ -(n : Int) % (b : Int) = (b : Int) - ((n % b : Nat) : Int) := by
  rw [Int.ediv_emod_unique (by omega)]
  have h1 := Nat.div_add_mod n b
  have h3 := Nat.mod_lt n hb
  have h2 : ((b * (n / b) + n % b : Nat) : Int) = (n : Int) := congrArg Nat.cast h1
  rw [Int.natCast_add, Int.natCast_mul] at h2
  refine ⟨?_, by omega, by omega⟩
  rw [Int.mul_sub, Int.mul_neg, Int.mul_one]; omega

set_option maxRecDepth 100000 in
set_option maxHeartbeats 8000000 in
theorem divmodz_any (w : World) (a : Int) (b : Nat) (ha : ZNum a) (hb : Num b) (hb0 : 0 < b) (hab : Num (a.natAbs + 1)) (L : Laid w) :
    Gives Tryz.prog 107 #[.string (itx a), .string (dec b)] w (.tuple #[.string (itx (a / (b : Int))), .string (itx (a % (b : Int))), .int .i64 0]) := by
  unfold Gives
  have hz := is_zero b
  rw [decide_eq_false (show ¬ b = 0 by omega)] at hz
  have Hl1 := Lib.hid (fun W => littlez_any W a ha 18 (by decide))
  have Hl2 := Lib.hid (fun W => littleD_any W b hb 18 (by decide))
  have HL := Lib.hid L
  have Hsa := Lib.hid (fun W => split_any W a)
  have Hsb : Hid (∀ W, Gives Tryz.prog 76 #[.string (dec b)] W (.tuple #[.bool false, .string (dec b)])) := fun W => by
    have := split_any W (b : Int)
    rw [itx_nat, decide_eq_false (show ¬ (b : Int) < 0 by omega)] at this
    exact this
  have Hdm : Hid (∀ W, Below w.heap.size w W → Gives Tryz.prog 129 #[.string (dec a.natAbs), .string (dec b)] W (.tuple #[.string (dec (a.natAbs / b)), .string (dec (a.natAbs % b)), .int .i64 0])) := fun W hW => by
    have := divmod_any W a.natAbs b ha hb (HL.out.below hW)
    rw [if_neg (show ¬ b = 0 by omega)] at this
    exact this
  have big : ∀ (P : Prop), ((∀ W, Gives Tryz.prog 96 #[.string (itx a), .int .i64 18] W (.tuple #[.int .i64 0, .bool false])) → P) → (((itx a).size ≤ 18 ∧ ¬ (dec b).size ≤ 18) → P) → (((itx a).size ≤ 18 ∧ (dec b).size ≤ 18) → P) → P := fun P h1 h2 h3 => by
    by_cases q1 : (itx a).size ≤ 18
    · by_cases q2 : (dec b).size ≤ 18
      · exact h3 ⟨q1, q2⟩
      · exact h2 ⟨q1, q2⟩
    · rw [if_neg q1] at Hl1
      exact h1 Hl1.out
  clear L
  refine big _ (fun hl1 => ?_) (fun hl => ?_) (fun hl => ?_)
  · have Hl := Lib.hid hl1
    clear hl1 Hl1 Hl2 big
    by_cases hn : a < 0
    · rw [decide_eq_true hn] at Hsa
      obtain ⟨n, rfl⟩ : ∃ n : Nat, a = -(n : Int) := ⟨a.natAbs, by omega⟩
      have hN : Num n := by
        have h : Num (-(n : Int)).natAbs := ha
        rw [show (-(n : Int)).natAbs = n by omega] at h
        exact h
      rw [show (-(n : Int)).natAbs = n by omega] at *
      by_cases hr : n % b = 0
      · obtain ⟨e1, e2⟩ := ediv_neg_exact n b hb0 hr
        rw [e1, e2]
        have hzr := is_zero (n % b)
        rw [decide_eq_true hr] at hzr
        have Hj1 := Lib.hid (fun W => join_any W true (n / b) (Num.le hN (Nat.div_le_self _ _)))
        have Hj2 := Lib.hid (fun W => join_any W false (n % b) (Num.le hN (Nat.mod_le _ _)))
        rw [show jz true (n / b) = -((n / b : Nat) : Int) from rfl] at Hj1
        rw [show jz false (n % b) = ((n % b : Nat) : Int) from rfl, hr, show ((0 : Nat) : Int) = 0 from rfl] at Hj2
        rw [hr] at hzr Hdm
        clear e1 e2 hr hn
        generalize itx (-((n / b : Nat) : Int)) = r1 at *
        generalize itx 0 = r2 at *
        generalize itx (-(n : Int)) = s at *
        generalize dec (n / b) = qd at *
        generalize dec 0 = rd at *
        generalize dec n = sm at *
        generalize dec b = tm at *
        go_enter Tryz.func107, Tryz.ntmps107
        go_wp2_with fail
        refine Calls.mono (Hl.out w) ?_
        rintro e w1 ⟨rfl, hb1⟩
        have Hb1 := Lib.hid hb1
        clear hb1 Hl
        go_wp2_with fail
        refine Calls.mono (Hsa.out w1) ?_
        rintro e w2 ⟨rfl, hb2⟩
        have Hb2 := Lib.hid (Hb1.out.trans (hb2.mono Hb1.out.size))
        clear hb2 Hb1 Hsa
        go_wp2_with fail
        refine Calls.mono (Hsb.out w2) ?_
        rintro e w3 ⟨rfl, hb3⟩
        have Hb3 := Lib.hid (Hb2.out.trans (hb3.mono Hb2.out.size))
        clear hb3 Hb2 Hsb
        go_wp2_with fail
        refine Calls.mono (Hdm.out w3 Hb3.out) ?_
        rintro e w4 ⟨rfl, hb4⟩
        have Hb4 := Lib.hid (Hb3.out.trans (hb4.mono Hb3.out.size))
        clear hb4 Hb3 Hdm
        go_wp2_with fail
        refine Calls.mono (Hj1.out w4) ?_
        rintro e w5 ⟨rfl, hb5⟩
        have Hb5 := Lib.hid (Hb4.out.trans (hb5.mono Hb4.out.size))
        clear hb5 Hb4 Hj1
        go_wp2_with fail
        refine Calls.mono (Hj2.out w5) ?_
        rintro e w6 ⟨rfl, hb6⟩
        have Hb6 := Lib.hid (Hb5.out.trans (hb6.mono Hb5.out.size))
        clear hb6 Hb5 Hj2
        go_wp2
        go_ret3
        exact ⟨rfl, Hb6.out⟩
      · obtain ⟨e1, e2⟩ := ediv_neg_rest n b hb0 hr
        have hml := Nat.mod_lt n hb0
        have e3 : -((n / b : Nat) : Int) - 1 = -((n / b + 1 : Nat) : Int) := by omega
        have e4 : (b : Int) - ((n % b : Nat) : Int) = ((b - n % b : Nat) : Int) := by omega
        rw [e1, e2, e3, e4]
        have hzr := is_zero (n % b)
        rw [decide_eq_false hr] at hzr
        have hn1 : Num (n / b + 1) := Num.le hab (Nat.succ_le_succ (Nat.div_le_self _ _))
        have Had : Hid (∀ W, Below w.heap.size w W → Gives Tryz.prog 131 #[.string (dec (n / b)), .string ⟨#[49]⟩] W (.string (dec (n / b + 1)))) := fun W hW => by
          have := add_any W (n / b) 1 (Num.le hN (Nat.div_le_self _ _)) (Num.le hab (by omega)) (HL.out.below hW)
          rw [dec_one] at this
          exact this
        have Hsu : Hid (∀ W, Below w.heap.size w W → Gives Tryz.prog 132 #[.string (dec b), .string (dec (n % b))] W (.tuple #[.string (dec (b - n % b)), .int .i64 0])) := fun W hW => by
          have := sub_any W b (n % b) hb (Num.le hN (Nat.mod_le _ _)) (HL.out.below hW)
          rw [if_neg (by omega)] at this
          exact this
        have Hj1 := Lib.hid (fun W => join_any W true (n / b + 1) hn1)
        have Hj2 := Lib.hid (fun W => join_any W false (b - n % b) (Num.le hb (Nat.sub_le _ _)))
        rw [show jz true (n / b + 1) = -((n / b + 1 : Nat) : Int) from rfl] at Hj1
        rw [show jz false (b - n % b) = ((b - n % b : Nat) : Int) from rfl] at Hj2
        clear e1 e2 e3 e4 hr hn hml
        generalize itx (-((n / b + 1 : Nat) : Int)) = r1 at *
        generalize itx ((b - n % b : Nat) : Int) = r2 at *
        generalize itx (-(n : Int)) = s at *
        generalize dec (n / b + 1) = qe at *
        generalize dec (b - n % b) = re at *
        generalize dec (n / b) = qd at *
        generalize dec (n % b) = rd at *
        generalize dec n = sm at *
        generalize dec b = tm at *
        go_enter Tryz.func107, Tryz.ntmps107
        go_wp2_with fail
        refine Calls.mono (Hl.out w) ?_
        rintro e w1 ⟨rfl, hb1⟩
        have Hb1 := Lib.hid hb1
        clear hb1 Hl
        go_wp2_with fail
        refine Calls.mono (Hsa.out w1) ?_
        rintro e w2 ⟨rfl, hb2⟩
        have Hb2 := Lib.hid (Hb1.out.trans (hb2.mono Hb1.out.size))
        clear hb2 Hb1 Hsa
        go_wp2_with fail
        refine Calls.mono (Hsb.out w2) ?_
        rintro e w3 ⟨rfl, hb3⟩
        have Hb3 := Lib.hid (Hb2.out.trans (hb3.mono Hb2.out.size))
        clear hb3 Hb2 Hsb
        go_wp2_with fail
        refine Calls.mono (Hdm.out w3 Hb3.out) ?_
        rintro e w4 ⟨rfl, hb4⟩
        have Hb4 := Lib.hid (Hb3.out.trans (hb4.mono Hb3.out.size))
        clear hb4 Hb3 Hdm
        go_wp2_with fail
        refine Calls.mono (Had.out w4 Hb4.out) ?_
        rintro e w5 ⟨rfl, hb5⟩
        have Hb5 := Lib.hid (Hb4.out.trans (hb5.mono Hb4.out.size))
        clear hb5 Hb4 Had
        go_wp2_with fail
        refine Calls.mono (Hsu.out w5 Hb5.out) ?_
        rintro e w6 ⟨rfl, hb6⟩
        have Hb6 := Lib.hid (Hb5.out.trans (hb6.mono Hb5.out.size))
        clear hb6 Hb5 Hsu
        go_wp2_with fail
        refine Calls.mono (Hj1.out w6) ?_
        rintro e w7 ⟨rfl, hb7⟩
        have Hb7 := Lib.hid (Hb6.out.trans (hb7.mono Hb6.out.size))
        clear hb7 Hb6 Hj1
        go_wp2_with fail
        refine Calls.mono (Hj2.out w7) ?_
        rintro e w8 ⟨rfl, hb8⟩
        have Hb8 := Lib.hid (Hb7.out.trans (hb8.mono Hb7.out.size))
        clear hb8 Hb7 Hj2
        go_wp2
        go_ret3
        exact ⟨rfl, Hb8.out⟩
    · rw [decide_eq_false hn] at Hsa
      obtain ⟨n, rfl⟩ : ∃ n : Nat, a = (n : Int) := ⟨a.natAbs, by omega⟩
      have hN : Num n := ha
      rw [show ((n : Int)).natAbs = n by omega] at *
      have Hj1 := Lib.hid (fun W => join_any W false (n / b) (Num.le hN (Nat.div_le_self _ _)))
      have Hj2 := Lib.hid (fun W => join_any W false (n % b) (Num.le hN (Nat.mod_le _ _)))
      rw [show jz false (n / b) = (n : Int) / (b : Int) from rfl] at Hj1
      rw [show jz false (n % b) = (n : Int) % (b : Int) from rfl] at Hj2
      clear hn
      generalize itx ((n : Int) / (b : Int)) = r1 at *
      generalize itx ((n : Int) % (b : Int)) = r2 at *
      generalize itx (n : Int) = s at *
      generalize dec (n / b) = qd at *
      generalize dec (n % b) = rd at *
      generalize dec n = sm at *
      generalize dec b = tm at *
      go_enter Tryz.func107, Tryz.ntmps107
      go_wp2_with fail
      refine Calls.mono (Hl.out w) ?_
      rintro e w1 ⟨rfl, hb1⟩
      have Hb1 := Lib.hid hb1
      clear hb1 Hl
      go_wp2_with fail
      refine Calls.mono (Hsa.out w1) ?_
      rintro e w2 ⟨rfl, hb2⟩
      have Hb2 := Lib.hid (Hb1.out.trans (hb2.mono Hb1.out.size))
      clear hb2 Hb1 Hsa
      go_wp2_with fail
      refine Calls.mono (Hsb.out w2) ?_
      rintro e w3 ⟨rfl, hb3⟩
      have Hb3 := Lib.hid (Hb2.out.trans (hb3.mono Hb2.out.size))
      clear hb3 Hb2 Hsb
      go_wp2_with fail
      refine Calls.mono (Hdm.out w3 Hb3.out) ?_
      rintro e w4 ⟨rfl, hb4⟩
      have Hb4 := Lib.hid (Hb3.out.trans (hb4.mono Hb3.out.size))
      clear hb4 Hb3 Hdm
      go_wp2_with fail
      refine Calls.mono (Hj1.out w4) ?_
      rintro e w5 ⟨rfl, hb5⟩
      have Hb5 := Lib.hid (Hb4.out.trans (hb5.mono Hb4.out.size))
      clear hb5 Hb4 Hj1
      go_wp2_with fail
      refine Calls.mono (Hj2.out w5) ?_
      rintro e w6 ⟨rfl, hb6⟩
      have Hb6 := Lib.hid (Hb5.out.trans (hb6.mono Hb5.out.size))
      clear hb6 Hb5 Hj2
      go_wp2
      go_ret3
      exact ⟨rfl, Hb6.out⟩
  · rw [if_pos hl.1] at Hl1
    rw [if_neg hl.2] at Hl2
    clear hl big
    by_cases hn : a < 0
    · rw [decide_eq_true hn] at Hsa
      obtain ⟨n, rfl⟩ : ∃ n : Nat, a = -(n : Int) := ⟨a.natAbs, by omega⟩
      have hN : Num n := by
        have h : Num (-(n : Int)).natAbs := ha
        rw [show (-(n : Int)).natAbs = n by omega] at h
        exact h
      rw [show (-(n : Int)).natAbs = n by omega] at *
      by_cases hr : n % b = 0
      · obtain ⟨e1, e2⟩ := ediv_neg_exact n b hb0 hr
        rw [e1, e2]
        have hzr := is_zero (n % b)
        rw [decide_eq_true hr] at hzr
        have Hj1 := Lib.hid (fun W => join_any W true (n / b) (Num.le hN (Nat.div_le_self _ _)))
        have Hj2 := Lib.hid (fun W => join_any W false (n % b) (Num.le hN (Nat.mod_le _ _)))
        rw [show jz true (n / b) = -((n / b : Nat) : Int) from rfl] at Hj1
        rw [show jz false (n % b) = ((n % b : Nat) : Int) from rfl, hr, show ((0 : Nat) : Int) = 0 from rfl] at Hj2
        rw [hr] at hzr Hdm
        clear e1 e2 hr hn
        generalize itx (-((n / b : Nat) : Int)) = r1 at *
        generalize itx 0 = r2 at *
        generalize itx (-(n : Int)) = s at *
        generalize dec (n / b) = qd at *
        generalize dec 0 = rd at *
        generalize dec n = sm at *
        generalize dec b = tm at *
        go_enter Tryz.func107, Tryz.ntmps107
        go_wp2_with fail
        refine Calls.mono (Hl1.out w) ?_
        rintro e w1 ⟨rfl, hb1⟩
        have Hb1 := Lib.hid hb1
        clear hb1 Hl1
        go_wp2_with fail
        refine Calls.mono (Hl2.out w1) ?_
        rintro e w2 ⟨rfl, hb2⟩
        have Hb2 := Lib.hid (Hb1.out.trans (hb2.mono Hb1.out.size))
        clear hb2 Hb1 Hl2
        go_wp2_with fail
        refine Calls.mono (Hsa.out w2) ?_
        rintro e w3 ⟨rfl, hb3⟩
        have Hb3 := Lib.hid (Hb2.out.trans (hb3.mono Hb2.out.size))
        clear hb3 Hb2 Hsa
        go_wp2_with fail
        refine Calls.mono (Hsb.out w3) ?_
        rintro e w4 ⟨rfl, hb4⟩
        have Hb4 := Lib.hid (Hb3.out.trans (hb4.mono Hb3.out.size))
        clear hb4 Hb3 Hsb
        go_wp2_with fail
        refine Calls.mono (Hdm.out w4 Hb4.out) ?_
        rintro e w5 ⟨rfl, hb5⟩
        have Hb5 := Lib.hid (Hb4.out.trans (hb5.mono Hb4.out.size))
        clear hb5 Hb4 Hdm
        go_wp2_with fail
        refine Calls.mono (Hj1.out w5) ?_
        rintro e w6 ⟨rfl, hb6⟩
        have Hb6 := Lib.hid (Hb5.out.trans (hb6.mono Hb5.out.size))
        clear hb6 Hb5 Hj1
        go_wp2_with fail
        refine Calls.mono (Hj2.out w6) ?_
        rintro e w7 ⟨rfl, hb7⟩
        have Hb7 := Lib.hid (Hb6.out.trans (hb7.mono Hb6.out.size))
        clear hb7 Hb6 Hj2
        go_wp2
        go_ret3
        exact ⟨rfl, Hb7.out⟩
      · obtain ⟨e1, e2⟩ := ediv_neg_rest n b hb0 hr
        have hml := Nat.mod_lt n hb0
        have e3 : -((n / b : Nat) : Int) - 1 = -((n / b + 1 : Nat) : Int) := by omega
        have e4 : (b : Int) - ((n % b : Nat) : Int) = ((b - n % b : Nat) : Int) := by omega
        rw [e1, e2, e3, e4]
        have hzr := is_zero (n % b)
        rw [decide_eq_false hr] at hzr
        have hn1 : Num (n / b + 1) := Num.le hab (Nat.succ_le_succ (Nat.div_le_self _ _))
        have Had : Hid (∀ W, Below w.heap.size w W → Gives Tryz.prog 131 #[.string (dec (n / b)), .string ⟨#[49]⟩] W (.string (dec (n / b + 1)))) := fun W hW => by
          have := add_any W (n / b) 1 (Num.le hN (Nat.div_le_self _ _)) (Num.le hab (by omega)) (HL.out.below hW)
          rw [dec_one] at this
          exact this
        have Hsu : Hid (∀ W, Below w.heap.size w W → Gives Tryz.prog 132 #[.string (dec b), .string (dec (n % b))] W (.tuple #[.string (dec (b - n % b)), .int .i64 0])) := fun W hW => by
          have := sub_any W b (n % b) hb (Num.le hN (Nat.mod_le _ _)) (HL.out.below hW)
          rw [if_neg (by omega)] at this
          exact this
        have Hj1 := Lib.hid (fun W => join_any W true (n / b + 1) hn1)
        have Hj2 := Lib.hid (fun W => join_any W false (b - n % b) (Num.le hb (Nat.sub_le _ _)))
        rw [show jz true (n / b + 1) = -((n / b + 1 : Nat) : Int) from rfl] at Hj1
        rw [show jz false (b - n % b) = ((b - n % b : Nat) : Int) from rfl] at Hj2
        clear e1 e2 e3 e4 hr hn hml
        generalize itx (-((n / b + 1 : Nat) : Int)) = r1 at *
        generalize itx ((b - n % b : Nat) : Int) = r2 at *
        generalize itx (-(n : Int)) = s at *
        generalize dec (n / b + 1) = qe at *
        generalize dec (b - n % b) = re at *
        generalize dec (n / b) = qd at *
        generalize dec (n % b) = rd at *
        generalize dec n = sm at *
        generalize dec b = tm at *
        go_enter Tryz.func107, Tryz.ntmps107
        go_wp2_with fail
        refine Calls.mono (Hl1.out w) ?_
        rintro e w1 ⟨rfl, hb1⟩
        have Hb1 := Lib.hid hb1
        clear hb1 Hl1
        go_wp2_with fail
        refine Calls.mono (Hl2.out w1) ?_
        rintro e w2 ⟨rfl, hb2⟩
        have Hb2 := Lib.hid (Hb1.out.trans (hb2.mono Hb1.out.size))
        clear hb2 Hb1 Hl2
        go_wp2_with fail
        refine Calls.mono (Hsa.out w2) ?_
        rintro e w3 ⟨rfl, hb3⟩
        have Hb3 := Lib.hid (Hb2.out.trans (hb3.mono Hb2.out.size))
        clear hb3 Hb2 Hsa
        go_wp2_with fail
        refine Calls.mono (Hsb.out w3) ?_
        rintro e w4 ⟨rfl, hb4⟩
        have Hb4 := Lib.hid (Hb3.out.trans (hb4.mono Hb3.out.size))
        clear hb4 Hb3 Hsb
        go_wp2_with fail
        refine Calls.mono (Hdm.out w4 Hb4.out) ?_
        rintro e w5 ⟨rfl, hb5⟩
        have Hb5 := Lib.hid (Hb4.out.trans (hb5.mono Hb4.out.size))
        clear hb5 Hb4 Hdm
        go_wp2_with fail
        refine Calls.mono (Had.out w5 Hb5.out) ?_
        rintro e w6 ⟨rfl, hb6⟩
        have Hb6 := Lib.hid (Hb5.out.trans (hb6.mono Hb5.out.size))
        clear hb6 Hb5 Had
        go_wp2_with fail
        refine Calls.mono (Hsu.out w6 Hb6.out) ?_
        rintro e w7 ⟨rfl, hb7⟩
        have Hb7 := Lib.hid (Hb6.out.trans (hb7.mono Hb6.out.size))
        clear hb7 Hb6 Hsu
        go_wp2_with fail
        refine Calls.mono (Hj1.out w7) ?_
        rintro e w8 ⟨rfl, hb8⟩
        have Hb8 := Lib.hid (Hb7.out.trans (hb8.mono Hb7.out.size))
        clear hb8 Hb7 Hj1
        go_wp2_with fail
        refine Calls.mono (Hj2.out w8) ?_
        rintro e w9 ⟨rfl, hb9⟩
        have Hb9 := Lib.hid (Hb8.out.trans (hb9.mono Hb8.out.size))
        clear hb9 Hb8 Hj2
        go_wp2
        go_ret3
        exact ⟨rfl, Hb9.out⟩
    · rw [decide_eq_false hn] at Hsa
      obtain ⟨n, rfl⟩ : ∃ n : Nat, a = (n : Int) := ⟨a.natAbs, by omega⟩
      have hN : Num n := ha
      rw [show ((n : Int)).natAbs = n by omega] at *
      have Hj1 := Lib.hid (fun W => join_any W false (n / b) (Num.le hN (Nat.div_le_self _ _)))
      have Hj2 := Lib.hid (fun W => join_any W false (n % b) (Num.le hN (Nat.mod_le _ _)))
      rw [show jz false (n / b) = (n : Int) / (b : Int) from rfl] at Hj1
      rw [show jz false (n % b) = (n : Int) % (b : Int) from rfl] at Hj2
      clear hn
      generalize itx ((n : Int) / (b : Int)) = r1 at *
      generalize itx ((n : Int) % (b : Int)) = r2 at *
      generalize itx (n : Int) = s at *
      generalize dec (n / b) = qd at *
      generalize dec (n % b) = rd at *
      generalize dec n = sm at *
      generalize dec b = tm at *
      go_enter Tryz.func107, Tryz.ntmps107
      go_wp2_with fail
      refine Calls.mono (Hl1.out w) ?_
      rintro e w1 ⟨rfl, hb1⟩
      have Hb1 := Lib.hid hb1
      clear hb1 Hl1
      go_wp2_with fail
      refine Calls.mono (Hl2.out w1) ?_
      rintro e w2 ⟨rfl, hb2⟩
      have Hb2 := Lib.hid (Hb1.out.trans (hb2.mono Hb1.out.size))
      clear hb2 Hb1 Hl2
      go_wp2_with fail
      refine Calls.mono (Hsa.out w2) ?_
      rintro e w3 ⟨rfl, hb3⟩
      have Hb3 := Lib.hid (Hb2.out.trans (hb3.mono Hb2.out.size))
      clear hb3 Hb2 Hsa
      go_wp2_with fail
      refine Calls.mono (Hsb.out w3) ?_
      rintro e w4 ⟨rfl, hb4⟩
      have Hb4 := Lib.hid (Hb3.out.trans (hb4.mono Hb3.out.size))
      clear hb4 Hb3 Hsb
      go_wp2_with fail
      refine Calls.mono (Hdm.out w4 Hb4.out) ?_
      rintro e w5 ⟨rfl, hb5⟩
      have Hb5 := Lib.hid (Hb4.out.trans (hb5.mono Hb4.out.size))
      clear hb5 Hb4 Hdm
      go_wp2_with fail
      refine Calls.mono (Hj1.out w5) ?_
      rintro e w6 ⟨rfl, hb6⟩
      have Hb6 := Lib.hid (Hb5.out.trans (hb6.mono Hb5.out.size))
      clear hb6 Hb5 Hj1
      go_wp2_with fail
      refine Calls.mono (Hj2.out w6) ?_
      rintro e w7 ⟨rfl, hb7⟩
      have Hb7 := Lib.hid (Hb6.out.trans (hb7.mono Hb6.out.size))
      clear hb7 Hb6 Hj2
      go_wp2
      go_ret3
      exact ⟨rfl, Hb7.out⟩
  · rw [if_pos hl.1] at Hl1
    rw [if_pos hl.2] at Hl2
    have q1 := itx_lim a 18 (by decide) hl.1
    have q2 := (dec_small18 b).1 hl.2
    clear hl big Hsa Hsb Hdm
    have Hof : Hid (∀ W, Below w.heap.size w W → ∀ z : Int, -9223372036854775808 ≤ z → z ≤ 9223372036854775807 → Gives Tryz.prog 97 #[.int .i64 z] W (.string (itx z))) := fun W hW z h0 h1 => ofz_any W z h0 h1 (HL.out.below hW)
    have hbz : ((b : Int) == 0) = false := by rw [beq_eq_false_iff_ne]; omega
    have hbn : ¬ (b : Int) < 0 := by omega
    have hbi : ¬ (b : Int) = 0 := by omega
    by_cases hn : a < 0
    · obtain ⟨n, rfl⟩ : ∃ n : Nat, a = -(n : Int) := ⟨a.natAbs, by omega⟩
      have hn1 : n < 1000000000000000000 := by omega
      have hdl : n / b ≤ n := Nat.div_le_self _ _
      have hml : n % b ≤ n := Nat.mod_le _ _
      have htd : Int.tdiv (-(n : Int)) (b : Int) = -((n / b : Nat) : Int) := by rw [Int.neg_tdiv, ← Int.ofNat_tdiv]
      have htm : Int.tmod (-(n : Int)) (b : Int) = -((n % b : Nat) : Int) := by rw [Int.neg_tmod, ← Int.ofNat_tmod]
      by_cases hr : n % b = 0
      · obtain ⟨e1, e2⟩ := ediv_neg_exact n b hb0 hr
        rw [e1, e2]
        rw [hr] at htm
        rw [show -((0 : Nat) : Int) = 0 from rfl] at htm
        clear e1 e2 hr hml
        generalize n / b = q at *
        have hw1 : IntKind.i64.wrap (-(q : Int)) = -(q : Int) := IntWalk.i64_in _ (by omega)
        have hw2 : IntKind.i64.wrap 0 = 0 := IntWalk.i64_in _ (by omega)
        have hq1 : -9223372036854775808 ≤ -(q : Int) := by omega
        have hq2 : -(q : Int) ≤ 9223372036854775807 := by omega
        have hr1 : (-9223372036854775808 : Int) ≤ 0 := by omega
        have hr2 : (0 : Int) ≤ 9223372036854775807 := by omega
        generalize itx (-(n : Int)) = s at *
        generalize dec b = tm at *
        go_enter Tryz.func107, Tryz.ntmps107
        go_wp2_with fail
        refine Calls.mono (Hl1.out w) ?_
        rintro e w1 ⟨rfl, hb1⟩
        have Hb1 := Lib.hid hb1
        clear hb1 Hl1
        go_wp2_with fail
        refine Calls.mono (Hl2.out w1) ?_
        rintro e w2 ⟨rfl, hb2⟩
        have Hb2 := Lib.hid (Hb1.out.trans (hb2.mono Hb1.out.size))
        clear hb2 Hb1 Hl2
        go_wp2_with fail
        go_quiet (fail)
        have Hb3 : Hid (Below w.heap.size w (w2.drewN nq)) := below_dn Hb2.out _
        clear Hb2
        generalize w2.drewN nq = w3 at *
        go_wp2_with fail
        refine Calls.mono (Hof.out w3 Hb3.out _ (by omega) (by omega)) ?_
        rintro e w4 ⟨rfl, hb4⟩
        have Hb4 := Lib.hid (Hb3.out.trans (hb4.mono Hb3.out.size))
        clear hb4 Hb3
        go_wp2_with fail
        refine Calls.mono (Hof.out w4 Hb4.out _ (by omega) (by omega)) ?_
        rintro e w5 ⟨rfl, hb5⟩
        have Hb5 := Lib.hid (Hb4.out.trans (hb5.mono Hb4.out.size))
        clear hb5 Hb4
        go_wp2
        go_ret3
        exact ⟨rfl, Hb5.out⟩
      · obtain ⟨e1, e2⟩ := ediv_neg_rest n b hb0 hr
        rw [e1, e2]
        have hmb := Nat.mod_lt n hb0
        have hr0 : 0 < n % b := by omega
        clear e1 e2 hr
        generalize n / b = q at *
        generalize n % b = r at *
        have hw1 : IntKind.i64.wrap (-(q : Int)) = -(q : Int) := IntWalk.i64_in _ (by omega)
        have hw2 : IntKind.i64.wrap (-(r : Int)) = -(r : Int) := IntWalk.i64_in _ (by omega)
        have hw3 : IntKind.i64.wrap (-(q : Int) - 1) = -(q : Int) - 1 := IntWalk.i64_in _ (by omega)
        have hw4 : IntKind.i64.wrap (-(r : Int) + (b : Int)) = -(r : Int) + (b : Int) := IntWalk.i64_in _ (by omega)
        have hq1 : -9223372036854775808 ≤ -(q : Int) - 1 := by omega
        have hq2 : -(q : Int) - 1 ≤ 9223372036854775807 := by omega
        have hr1 : (-9223372036854775808 : Int) ≤ -(r : Int) + (b : Int) := by omega
        have hr2 : -(r : Int) + (b : Int) ≤ 9223372036854775807 := by omega
        have hrz : (-(r : Int) != 0) = true := by rw [bne_iff_ne]; omega
        have hrn : -(r : Int) < 0 := by omega
        rw [show (b : Int) - (r : Int) = -(r : Int) + (b : Int) by omega]
        generalize itx (-(n : Int)) = s at *
        generalize dec b = tm at *
        go_enter Tryz.func107, Tryz.ntmps107
        go_wp2_with fail
        refine Calls.mono (Hl1.out w) ?_
        rintro e w1 ⟨rfl, hb1⟩
        have Hb1 := Lib.hid hb1
        clear hb1 Hl1
        go_wp2_with fail
        refine Calls.mono (Hl2.out w1) ?_
        rintro e w2 ⟨rfl, hb2⟩
        have Hb2 := Lib.hid (Hb1.out.trans (hb2.mono Hb1.out.size))
        clear hb2 Hb1 Hl2
        go_wp2_with fail
        go_quiet (fail)
        have Hb3 : Hid (Below w.heap.size w (w2.drewN nq)) := below_dn Hb2.out _
        clear Hb2
        generalize w2.drewN nq = w3 at *
        go_wp2_with fail
        refine Calls.mono (Hof.out w3 Hb3.out _ (by omega) (by omega)) ?_
        rintro e w4 ⟨rfl, hb4⟩
        have Hb4 := Lib.hid (Hb3.out.trans (hb4.mono Hb3.out.size))
        clear hb4 Hb3
        go_wp2_with fail
        refine Calls.mono (Hof.out w4 Hb4.out _ (by omega) (by omega)) ?_
        rintro e w5 ⟨rfl, hb5⟩
        have Hb5 := Lib.hid (Hb4.out.trans (hb5.mono Hb4.out.size))
        clear hb5 Hb4
        go_wp2
        go_ret3
        exact ⟨rfl, Hb5.out⟩
    · obtain ⟨n, rfl⟩ : ∃ n : Nat, a = (n : Int) := ⟨a.natAbs, by omega⟩
      have hn1 : n < 1000000000000000000 := by omega
      have hdl : n / b ≤ n := Nat.div_le_self _ _
      have hml : n % b ≤ n := Nat.mod_le _ _
      have htd : Int.tdiv (n : Int) (b : Int) = ((n / b : Nat) : Int) := by rw [← Int.ofNat_tdiv]
      have htm : Int.tmod (n : Int) (b : Int) = ((n % b : Nat) : Int) := by rw [← Int.ofNat_tmod]
      obtain ⟨e1, e2⟩ := ediv_nat n b
      rw [e1, e2]
      clear e1 e2
      generalize n / b = q at *
      generalize n % b = r at *
      have hw1 : IntKind.i64.wrap (q : Int) = (q : Int) := IntWalk.i64_in _ (by omega)
      have hw2 : IntKind.i64.wrap (r : Int) = (r : Int) := IntWalk.i64_in _ (by omega)
      have hq1 : -9223372036854775808 ≤ (q : Int) := by omega
      have hq2 : (q : Int) ≤ 9223372036854775807 := by omega
      have hr1 : (-9223372036854775808 : Int) ≤ (r : Int) := by omega
      have hr2 : (r : Int) ≤ 9223372036854775807 := by omega
      generalize itx (n : Int) = s at *
      generalize dec b = tm at *
      rcases Nat.eq_zero_or_pos r with hr0 | hr0
      · subst hr0
        have hw5 : IntKind.i64.wrap 0 = 0 := IntWalk.i64_in _ (by omega)
        go_enter Tryz.func107, Tryz.ntmps107
        go_wp2_with fail
        refine Calls.mono (Hl1.out w) ?_
        rintro e w1 ⟨rfl, hb1⟩
        have Hb1 := Lib.hid hb1
        clear hb1 Hl1
        go_wp2_with fail
        refine Calls.mono (Hl2.out w1) ?_
        rintro e w2 ⟨rfl, hb2⟩
        have Hb2 := Lib.hid (Hb1.out.trans (hb2.mono Hb1.out.size))
        clear hb2 Hb1 Hl2
        go_wp2_with fail
        go_quiet (fail)
        have Hb3 : Hid (Below w.heap.size w (w2.drewN nq)) := below_dn Hb2.out _
        clear Hb2
        generalize w2.drewN nq = w3 at *
        go_wp2_with fail
        refine Calls.mono (Hof.out w3 Hb3.out _ (by omega) (by omega)) ?_
        rintro e w4 ⟨rfl, hb4⟩
        have Hb4 := Lib.hid (Hb3.out.trans (hb4.mono Hb3.out.size))
        clear hb4 Hb3
        go_wp2_with fail
        refine Calls.mono (Hof.out w4 Hb4.out _ (by omega) (by omega)) ?_
        rintro e w5 ⟨rfl, hb5⟩
        have Hb5 := Lib.hid (Hb4.out.trans (hb5.mono Hb4.out.size))
        clear hb5 Hb4
        go_wp2
        go_ret3
        exact ⟨rfl, Hb5.out⟩
      · have hrz : ((r : Int) != 0) = true := by rw [bne_iff_ne]; omega
        have hrn : decide ((r : Int) < 0) = false := decide_eq_false (by omega)
        have hbn2 : decide ((b : Int) < 0) = false := decide_eq_false (by omega)
        go_enter Tryz.func107, Tryz.ntmps107
        go_wp2_with fail
        refine Calls.mono (Hl1.out w) ?_
        rintro e w1 ⟨rfl, hb1⟩
        have Hb1 := Lib.hid hb1
        clear hb1 Hl1
        go_wp2_with fail
        refine Calls.mono (Hl2.out w1) ?_
        rintro e w2 ⟨rfl, hb2⟩
        have Hb2 := Lib.hid (Hb1.out.trans (hb2.mono Hb1.out.size))
        clear hb2 Hb1 Hl2
        go_wp2_with fail
        go_quiet (fail)
        have Hb3 : Hid (Below w.heap.size w (w2.drewN nq)) := below_dn Hb2.out _
        clear Hb2
        generalize w2.drewN nq = w3 at *
        go_wp2_with fail
        refine Calls.mono (Hof.out w3 Hb3.out _ (by omega) (by omega)) ?_
        rintro e w4 ⟨rfl, hb4⟩
        have Hb4 := Lib.hid (Hb3.out.trans (hb4.mono Hb3.out.size))
        clear hb4 Hb3
        go_wp2_with fail
        refine Calls.mono (Hof.out w4 Hb4.out _ (by omega) (by omega)) ?_
        rintro e w5 ⟨rfl, hb5⟩
        have Hb5 := Lib.hid (Hb4.out.trans (hb5.mono Hb4.out.size))
        clear hb5 Hb4
        go_wp2
        go_ret3
        exact ⟨rfl, Hb5.out⟩

end Go.Proofs.YtlomhfknmhaboaaGreatDoor

/- Fractions: little, both. -/
namespace Go.Proofs.YtlomhfknmhaboaaGreatDoor
open Go.RowKit

/-- A fraction as a value. -/
def fv (n : Int) (d : Nat) : Value := .agg #[.string (itx n), .string (dec d)]

set_option maxHeartbeats 2000000 in
theorem littleF_any (w : World) (z : Int) (hz : ZNum z) :
    Gives Tryz.prog 118 #[.string (itx z)] w (if (itx z).size ≤ 9 then .tuple #[.int .i64 z, .bool true] else .tuple #[.int .i64 0, .bool false]) := by
  unfold Gives
  have hz1 : (dec z.natAbs).size ≤ 1000000 := hz
  have hz2 := itx_size_le z
  by_cases h : (itx z).size ≤ 9
  · rw [if_pos h]
    have hlt := itx_lim z 9 (by decide) (by omega)
    have Hc := Lib.hid (Tryz.strconv_Atoi_ok (itx z) (by omega) z (atoi_itx z (by omega)) w)
    have Hbb := Lib.hid (fun t => below_bytes w 5 t)
    have h' : ((itx z).size : Int) ≤ 9 := by omega
    clear hlt hz1 hz2
    generalize itx z = s at *
    go_enter Tryz.func118, Tryz.ntmps118
    go_wp2_with fail
    refine Calls.mono Hc.out ?_
    rintro e w1 ⟨rfl, hw⟩
    have Hb : Hid (Below w.heap.size w w1) := by
      show Below _ _ _
      rcases hw with rfl | ⟨t, rfl⟩
      · exact Below.refl _ _
      · exact Hbb.out t
    clear hw
    go_wp2_with fail
    go_quiet (fail)
    go_wp2
    go_ret2
    exact ⟨rfl, below_dn Hb.out _⟩
  · rw [if_neg h]
    have h' : ¬ ((itx z).size : Int) ≤ 9 := by omega
    generalize itx z = s at *
    go_enter Tryz.func118, Tryz.ntmps118
    go_wp2
    go_ret2
    exact ⟨rfl, Below.refl _ _⟩

/-- What both says. -/
def bothV (n : Int) (d : Nat) : Value :=
  .tuple #[.int .i64 (if (itx n).size ≤ 9 then n else 0), .int .i64 (if (dec d).size ≤ 9 then d else 0), .bool (decide ((itx n).size ≤ 9) && decide ((dec d).size ≤ 9))]

set_option maxHeartbeats 4000000 in
theorem both_frac (w : World) (n : Int) (d : Nat) (hn : ZNum n) (hd : Num d) :
    Gives Tryz.prog 79 #[fv n d] w (bothV n d) := by
  unfold Gives fv
  have Hl1 : Hid (∀ W, Gives Tryz.prog 118 #[.string (itx n)] W (.tuple #[.int .i64 (if (itx n).size ≤ 9 then n else 0), .bool (decide ((itx n).size ≤ 9))])) := fun W => by
    have := littleF_any W n hn
    by_cases h : (itx n).size ≤ 9
    · rw [if_pos h] at this; rw [if_pos h, decide_eq_true h]; exact this
    · rw [if_neg h] at this; rw [if_neg h, decide_eq_false h]; exact this
  have Hl2 : Hid (∀ W, Gives Tryz.prog 118 #[.string (dec d)] W (.tuple #[.int .i64 (if (dec d).size ≤ 9 then (d : Int) else 0), .bool (decide ((dec d).size ≤ 9))])) := fun W => by
    have := littleF_any W (d : Int) (show Num _ from hd)
    rw [itx_nat] at this
    by_cases h : (dec d).size ≤ 9
    · rw [if_pos h] at this; rw [if_pos h, decide_eq_true h]; exact this
    · rw [if_neg h] at this; rw [if_neg h, decide_eq_false h]; exact this
  have Hv : Hid (bothV n d = .tuple #[.int .i64 (if (itx n).size ≤ 9 then n else 0), .int .i64 (if (dec d).size ≤ 9 then (d : Int) else 0), .bool (decide ((itx n).size ≤ 9) && decide ((dec d).size ≤ 9))]) := rfl
  rw [Hv.out]
  clear Hv
  generalize (if (itx n).size ≤ 9 then n else 0) = x at *
  generalize (if (dec d).size ≤ 9 then (d : Int) else 0) = y at *
  generalize decide ((itx n).size ≤ 9) = p at *
  generalize decide ((dec d).size ≤ 9) = q at *
  generalize itx n = s at *
  generalize dec d = t at *
  have Hc1 : Hid ((w.alloc (.cells #[.string s, .string t] 30)).cell? ⟨w.heap.size, 1, none⟩ = some (.string t)) := by
    show _ = _
    rw [World.cell?_alloc_new]; rfl
  have Hb0 := Lib.hid ((Below.refl w.heap.size w).alloc (Nat.le_refl _) (.cells #[.string s, .string t] 30))
  have hsz0 : w.heap.size < (w.alloc (.cells #[.string s, .string t] 30)).heap.size := by simp
  have Hsz0 := Lib.hid hsz0
  clear hsz0
  go_enter Tryz.func79, Tryz.ntmps79
  go_wp2_with fail
  refine Calls.mono (Hl1.out _) ?_
  rintro e w1 ⟨rfl, hb1⟩
  have cx := Hc1.out
  rw [← hb1.cell (p := ⟨w.heap.size, 1, none⟩) Hsz0.out] at cx
  have Hb1 := Lib.hid (Hb0.out.trans (hb1.mono (Nat.le_of_lt Hsz0.out)))
  clear hb1 Hb0 Hc1 Hsz0
  go_wp2_with fail
  refine Calls.mono (Hl2.out _) ?_
  rintro e w2 ⟨rfl, hb2⟩
  have Hb2 := Lib.hid (Hb1.out.trans (hb2.mono Hb1.out.size))
  clear hb2 Hb1 cx
  cases p <;> cases q
  all_goals
    go_wp2
    go_ret3
    exact ⟨rfl, Hb2.out⟩

end Go.Proofs.YtlomhfknmhaboaaGreatDoor

/- A region that draws its order: quiet operations and calls first, then a tail in one forced order (a store into the result's cell). -/
namespace Go.Proofs.YtlomhfknmhaboaaGreatDoor
open Go Go.Sort

section
variable {P : Program} {ops : Array Oper} {md : Region.Mode} {C : World → Prop}

/-- Whatever order is picked among the first n operations; L is asked once they have all come up. -/
def anyHead (P : Program) (md : Region.Mode) (ops : Array Oper) (C : World → Prop) (n : Nat) (L : Array Bool → Act → Prop) : Nat → Array Bool → Act → Prop
  | 0, listed, a => L listed a
  | f + 1, listed, a => Region.ready md ops listed ≠ [] ∧ ∀ i ∈ Region.ready md ops listed, i < n ∧ qOp P ops C i (anyHead P md ops C n L f (listed.setIfInBounds i true)) a

theorem anyHead_any {n g : Nat} {L : Array Bool → Act → Prop} {Q' : Exit → Act → World → Prop} (hL : ∀ listed a w, C w → L listed a → wpAny P md ops Q' g listed a w) :
    ∀ (f : Nat) (listed : Array Bool) (a : Act) (w : World), C w → anyHead P md ops C n L f listed a → wpAny P md ops Q' (f + g) listed a w
  | 0, listed, a, w, hw, h => by rw [Nat.zero_add]; exact hL _ _ _ hw h
  | f + 1, listed, a, w, hw, h => by
    rw [show f + 1 + g = (f + g) + 1 by omega]
    exact ⟨fun h0 => absurd h0 h.1, fun i hi => wpOp_of_qOp hw (fun a' w' hw' h' => anyHead_any hL f _ a' w' hw' h') (h.2 i hi).2⟩

theorem anyHead_first {n i : Nat} {oi : Oper} {v : Value} {L : Array Bool → Act → Prop} (hi : ops[i]? = some oi) (hsel : ∀ (j : Nat) (o : Oper) cs b, ops[j]? = some o → o.op ≠ .select cs b)
    (hs : Region.sinkB md ops n = true) (hc : Region.chainB md ops n = true) (hn : n < ops.size) (hin : i < n)
    (hdone : ∀ listed a, L listed a → ∀ j ∈ Region.ready md ops listed, n ≤ j) :
    ∀ (f : Nat) (listed : Array Bool) (a : Act), HeadInv md ops n listed →
      (∀ j oj, ops[j]? = some oj → j ≠ i → listed.getD j true = false → (∀ e ∈ oj.after, Region.binds md e = true → e.on ≠ i) → oi.apart ops oj = true) →
      i ∈ Region.ready md ops listed → YieldsIn P ops C oi v a →
      anyHead P md ops C n L f (listed.setIfInBounds i true) (a.put oi.dst v) → anyHead P md ops C n L (f + 1) listed a := by
  intro f
  induction f with
  | zero =>
    intro listed a inv _ hr hy H
    have hun := (mem_ready.1 hr).1
    refine ⟨fun h => (by rw [h] at hr; cases hr), fun j hj => ?_⟩
    have hjn : j < n := by
      rcases Nat.lt_or_ge j n with h | h
      · exact h
      · exact absurd hj (tail_waits hs hc hn inv _ i rfl hin hun j h)
    refine ⟨hjn, ?_⟩
    by_cases hji : j = i
    · subst hji; exact hy.qOp hi H
    · have := hdone _ _ H j (ready_mono hj hji)
      omega
  | succ f ih =>
    intro listed a inv hfree hr hy H
    have hun := (mem_ready.1 hr).1
    refine ⟨fun h => (by rw [h] at hr; cases hr), fun j hj => ?_⟩
    have hjn : j < n := by
      rcases Nat.lt_or_ge j n with h | h
      · exact h
      · exact absurd hj (tail_waits hs hc hn inv _ i rfl hin hun j h)
    refine ⟨hjn, ?_⟩
    by_cases hji : j = i
    · subst hji; exact hy.qOp hi H
    · have h1 := (H.2 j (ready_mono hj hji)).2
      obtain ⟨hjun, oj, hoj, hall⟩ := mem_ready.1 hj
      have hnot : ∀ e ∈ oj.after, Region.binds md e = true → e.on ≠ i := fun e he hb heq => by
        have h1 := hall e he hb
        rw [heq, getD_both hun] at h1
        cases h1
      have h2 := qOp_put hoj (hfree j oj hoj hji hjun hnot) (fun cs b => hsel i oi cs b hi) (fun cs b => hsel j oj cs b hoj) hy h1
      have hfree' : ∀ k ok, ops[k]? = some ok → k ≠ i → (listed.setIfInBounds j true).getD k true = false →
          (∀ e ∈ ok.after, Region.binds md e = true → e.on ≠ i) → oi.apart ops ok = true := fun k ok hk hki hun hno => by
        refine hfree k ok hk hki ?_ hno
        by_cases hjk : j = k
        · subst hjk; exact hjun
        · rw [getD_set_ne true hjk] at hun; exact hun
      refine qOp_mono (fun a' h3 => ih (listed.setIfInBounds j true) a' (inv.set hj hjn) hfree' (ready_mono hr (Ne.symm hji)) h3.1 ?_) h2
      rw [Array.setIfInBounds_comm _ _ hji]
      exact h3.2

theorem anyHead_lex {n g : Nat} {Lq : Act → Prop} (hsel : Region.noSelect ops = true) (hs : Region.sinkB md ops n = true) (hc : Region.chainB md ops n = true) (hn : n < ops.size) :
    ∀ (l : List Oper) (k : Nat) (listed : Array Bool) (a : Act), (∀ j, j < l.length → l[j]? = ops[k + j]?) → k + l.length = n → HeadInv md ops n listed →
    Region.lexHead md ops g l.length k listed = true → wpQuiet P ops C Lq l a →
    anyHead P md ops C n (fun listed' a' => Region.seqB md ops g n listed' = true ∧ Lq a') l.length listed a
  | [], k, listed, a, _, hk, _, hB, h => by
    have : k = n := by simpa using hk
    subst this
    exact ⟨by simpa [Region.lexHead] using hB, h⟩
  | o :: l, k, listed, a, hl, hk, inv, hB, h => by
    have h0 : ops[k]? = some o := by simpa using (hl 0 (by simp)).symm
    simp only [List.length_cons, Region.lexHead, Bool.and_eq_true] at hB
    obtain ⟨⟨hr, hf⟩, hB'⟩ := hB
    have hkn : k < n := by simp only [List.length_cons] at hk; omega
    have hr' : k ∈ Region.ready md ops listed := by simpa using hr
    have hst : qOp P ops C k (wpQuiet P ops C Lq l) a := by unfold qOp; simp only [h0]; exact h
    obtain ⟨v, hy, hK⟩ := yieldsIn_of_qOp h0 hst
    exact anyHead_first h0 (Region.noSelect_spec hsel) hs hc hn hkn (fun listed' a' hL => seqB_ready hL.1) l.length listed a inv (Region.free_spec h0 hf) hr' hy
      (anyHead_lex hsel hs hc hn l (k + 1) _ _ (fun j hj => by have := hl (j + 1) (by simp; omega); simpa [Nat.add_assoc, Nat.add_comm 1 j] using this) (by simp only [List.length_cons] at hk; omega) (inv.set hr' hkn) hB' hK)

/-- Quiet operations in a class of worlds, then a forced tail. -/
theorem wp_region_quiet_tail {id : Nat} {Q : Exit → Act → World → Prop} {a : Act} {w : World} {l : List Oper} (n : Nat) (hm : P.follows .mixedOrders = true) (hB : Region.lexTailB .any l.toArray n = true)
    (hC : C { w with drawn := w.drawn + 1 }) (h : wpQuiet P l.toArray C (fun a' => ∀ w', C w' → wpList P l.toArray Q (l.drop n) a' w') (l.take n) a) : (Code.region id l.toArray true).wp P Q a w := by
  simp only [Region.lexTailB, Bool.and_eq_true, decide_eq_true_eq] at hB
  obtain ⟨⟨⟨⟨hsel, hn⟩, hs⟩, hc⟩, hlex⟩ := hB
  have hn' : n < l.length := by simpa using hn
  have htl : (l.take n).length = n := by simp; omega
  have hdl : (l.drop n).length = l.toArray.size - n := by simp
  have inv0 : HeadInv .any l.toArray n (Array.replicate l.toArray.size false) :=
    ⟨by simp, fun j oj _ hl => (by rw [getD_replicate_false] at hl; cases hl), fun t _ ht => getD_in (by simpa using ht) (getD_replicate_false _ _)⟩
  have H := anyHead_lex (md := .any) (g := l.toArray.size - n) hsel hs hc hn (l.take n) 0 _ a (fun j hj => by
    have hj' : j < n := by rw [htl] at hj; exact hj
    simp [hj']) (by simpa using htl) inv0 (by rw [htl]; exact hlex) h
  refine wp_region_any hm ?_
  have := anyHead_any (Q' := Q) (g := l.toArray.size - n) (fun listed a' w' hw' hL => by
    have := wpAny_of_seq (md := .any) (Q' := Q) (l.drop n) n listed a' w' (fun j => by simp [List.getElem?_drop]) (by rw [hdl]; exact hL.1) (hL.2 w' hw')
    rwa [hdl] at this) _ _ _ _ hC H
  rw [htl, show n + (l.toArray.size - n) = l.toArray.size by omega] at this
  exact this

theorem wp_region_below_tail {id : Nat} {Q : Exit → Act → World → Prop} {a : Act} {w : World} {l : List Oper} (n : Nat) (hm : P.follows .mixedOrders = true) (hB : Region.lexTailB .any l.toArray n = true)
    (h : wpQuiet P l.toArray (fun w' => ∃ p : Regrown, w' = grow (redrawn w p.d) p.os) (fun a' => ∀ w', (∃ p : Regrown, w' = grow (redrawn w p.d) p.os) → wpList P l.toArray Q (l.drop n) a' w') (l.take n) a) : (Code.region id l.toArray true).wp P Q a w :=
  wp_region_quiet_tail n hm hB ⟨⟨w.drawn + 1, #[]⟩, by rw [grow_empty]; rfl⟩ h
end

end Go.Proofs.YtlomhfknmhaboaaGreatDoor

/- Fractions: of. -/
namespace Go.Proofs.YtlomhfknmhaboaaGreatDoor
open Go.RowKit

theorem itoa_regrown (w : World) (z : Int) (h0 : -9223372036854775808 ≤ z) (h1 : z ≤ 9223372036854775807) (L : Laid w) :
    ∀ d os, Calls Tryz.prog 89 #[.int .i64 z] (Go.Sort.grow (redrawn w d) os) fun e w'' => e = .returned (.string (itx z)) ∧ ∃ p : Regrown, w'' = Go.Sort.grow (redrawn w p.d) p.os := fun d os => by
  have hb := below_regrown w d os
  have := Tryz.strconv_Itoa z h0 h1 (Go.Sort.grow (redrawn w d) os) (L.below hb).tab
  exact Calls.regrown_of (this.mono fun e w'' ⟨h1, h2⟩ => ⟨h1, below_of_grow h2⟩)

theorem two_cells {w : World} {g : Nat} {a b : Value} {t : TypeId} (h : w.heap[g]? = some (.cells #[a, b] t (0, 0))) :
    w.cell? ⟨g, 0, none⟩ = some a ∧ w.cell? ⟨g, 1, none⟩ = some b ∧ w.frozen? ⟨g, 0, none⟩ = false ∧ w.frozen? ⟨g, 1, none⟩ = false := by
  refine ⟨by rw [cell_of_row w g 0 _ t (0, 0) h]; rfl, by rw [cell_of_row w g 1 _ t (0, 0) h]; rfl, ?_, ?_⟩
  · simp [World.frozen?, h]
  · simp [World.frozen?, h]

theorem two_stored {w0 w : World} {B g : Nat} {a b : Value} (x y : Value) (k0 : w.cell? ⟨g, 0, none⟩ = some a) (k1 : w.cell? ⟨g, 1, none⟩ = some b) (hB : B ≤ g) (hb : Below B w0 w) :
    ((w.setCell ⟨g, 0, none⟩ x).setCell ⟨g, 1, none⟩ y).cell? ⟨g, 0, none⟩ = some x ∧ ((w.setCell ⟨g, 0, none⟩ x).setCell ⟨g, 1, none⟩ y).cell? ⟨g, 1, none⟩ = some y ∧
    Below B w0 ((w.setCell ⟨g, 0, none⟩ x).setCell ⟨g, 1, none⟩ y) := by
  refine ⟨?_, ?_, ?_⟩
  · rw [World.cell?_setCell_other _ _ _ _ (by simp), World.cell?_setCell_same _ _ _ k0]
  · rw [World.cell?_setCell_same _ _ _ (by rw [World.cell?_setCell_other _ _ _ _ (by simp)]; exact k1)]
  · exact (hb.setCell (p := ⟨g, 0, none⟩) hB x).setCell (p := ⟨g, 1, none⟩) hB y

set_option maxRecDepth 100000 in
set_option maxHeartbeats 4000000 in
theorem of_frac (w : World) (n : Int) (d g : Nat) (hn : n.natAbs < 9223372036854775808) (hd : d < 9223372036854775808) (hd0 : 0 < d) (hg : Nat.gcd n.natAbs d = g) (L : Laid w) :
    Gives Tryz.prog 80 #[.int .i64 n, .int .i64 d] w (fv (n / (g : Int)) (d / g)) := by
  unfold Gives fv
  have hg0 : 0 < g := by rw [← hg]; exact Nat.gcd_pos_of_pos_right _ hd0
  have hgd : g ∣ d := by rw [← hg]; exact Nat.gcd_dvd_right _ _
  have hgn : (g : Int) ∣ n := by rw [← hg]; exact Int.gcd_dvd_left n (d : Int)
  have Hg := Lib.hid hg
  have HL := Lib.hid L
  clear hg L
  have Hb0 := Lib.hid ((Below.refl w.heap.size w).alloc (Nat.le_refl _) (.cells #[.string ⟨#[]⟩, .string ⟨#[]⟩] 30))
  go_enter Tryz.func80, Tryz.ntmps80
  go_wp2_with fail
  go_loopw [5, 6] (fun p q wr => ∃ x y : Int, x.natAbs < 9223372036854775808 ∧ y.natAbs < 9223372036854775808 ∧ p = .int .i64 x ∧ q = .int .i64 y ∧ Hid (Nat.gcd x.natAbs y.natAbs = g) ∧ Hid (∃ k, wr = (w.alloc (.cells #[.string ⟨#[]⟩, .string ⟨#[]⟩] 30)).drewN k)) (fun _ q _ => (intOf q).natAbs)
  case atStart => exact ⟨n, d, hn, by omega, rfl, rfl, Hg.out, ⟨0, rfl⟩⟩
  case round =>
    obtain ⟨x, y, hx, hy, rfl, rfl, Hxy, Hw⟩ := hrel
    by_cases h0 : y = 0
    · subst h0
      have hxg : x.natAbs = g := by
        have := Hxy.out
        rw [show (0 : Int).natAbs = 0 from rfl, Nat.gcd_zero_right] at this
        exact this
      have hng : g ≤ 9223372036854775807 := by omega
      have hgz : ((g : Int) == 0) = false := by rw [beq_eq_false_iff_ne]; omega
      have htd1 : Int.tdiv n (g : Int) = n / (g : Int) := Int.tdiv_eq_ediv_of_dvd hgn
      have htd2 : Int.tdiv (d : Int) (g : Int) = ((d / g : Nat) : Int) := by rw [← Int.ofNat_tdiv]
      have hnd : (n / (g : Int)).natAbs ≤ n.natAbs := by
        rw [← htd1, Int.natAbs_tdiv]; exact Nat.div_le_self _ _
      have hdd : d / g ≤ d := Nat.div_le_self _ _
      have hq1 : -9223372036854775808 ≤ n / (g : Int) := by omega
      have hq2 : n / (g : Int) ≤ 9223372036854775807 := by omega
      have hq3 : -9223372036854775808 ≤ ((d / g : Nat) : Int) := Int.le_trans (by decide) (Int.natCast_nonneg _)
      have hq4 : ((d / g : Nat) : Int) ≤ 9223372036854775807 := Int.le_trans (Int.ofNat_le.2 hdd) (by omega)
      have hw1 : IntKind.i64.wrap (n / (g : Int)) = n / (g : Int) := IntWalk.i64_in _ ⟨hq1, hq2⟩
      have hw2 : IntKind.i64.wrap ((d / g : Nat) : Int) = ((d / g : Nat) : Int) := IntWalk.i64_in _ ⟨hq3, hq4⟩
      have Hi1 : Hid (∀ W, Below w.heap.size w W → ∀ d' os, Calls Tryz.prog 89 #[.int .i64 (n / (g : Int))] (Go.Sort.grow (redrawn W d') os) fun e w'' => e = .returned (.string (itx (n / (g : Int)))) ∧ ∃ p : Regrown, w'' = Go.Sort.grow (redrawn W p.d) p.os) := fun W hW => itoa_regrown W _ hq1 hq2 (HL.out.below hW)
      have Hi2 : Hid (∀ W, Below w.heap.size w W → ∀ d' os, Calls Tryz.prog 89 #[.int .i64 ((d / g : Nat) : Int)] (Go.Sort.grow (redrawn W d') os) fun e w'' => e = .returned (.string (dec (d / g))) ∧ ∃ p : Regrown, w'' = Go.Sort.grow (redrawn W p.d) p.os) := fun W hW => by
        have := itoa_regrown W ((d / g : Nat) : Int) hq3 hq4 (HL.out.below hW)
        rw [itx_nat] at this
        exact this
      have Hbk : Hid (Below w.heap.size w wr) := by
        obtain ⟨k, hk⟩ := Hw.out
        show Below _ _ _
        rw [hk]; exact below_dn Hb0.out _
      have Hcell : Hid (wr.heap[w.heap.size]? = some (.cells #[.string ⟨#[]⟩, .string ⟨#[]⟩] 30 (0, 0))) := by
        obtain ⟨k, hk⟩ := Hw.out
        show _ = _
        rw [hk]; exact heap_alloc_new w _
      have hM1 := Hi1.out wr Hbk.out
      have hM2 := Hi2.out wr Hbk.out
      clear Hw Hi1 Hi2 hgd hgn hnd hdd Hxy
      obtain ⟨rs, hrs⟩ : ∃ rs, itx (n / (g : Int)) = rs := ⟨_, rfl⟩
      obtain ⟨rt, hrt⟩ : ∃ rt, dec (d / g) = rt := ⟨_, rfl⟩
      rw [hrs] at hM1
      rw [hrt] at hM2
      have Hrs := Lib.hid hrs
      have Hrt := Lib.hid hrt
      clear hrs hrt
      generalize n / (g : Int) = q1 at htd1 hq1 hq2 hw1 hM1
      generalize ((d / g : Nat) : Int) = q2 at htd2 hq3 hq4 hw2 hM2
      by_cases hneg : x < 0
      · have hxn : -x = (g : Int) := by omega
        have hwx : IntKind.i64.wrap (-x) = (g : Int) := by rw [hxn]; exact IntWalk.i64_in _ (by omega)
        have Hxn := Lib.hid hxn
        clear hxn
        go_wp2_with fail
        refine wp_region_below_tail 9 (by kernel_rfl) (by kernel_rfl) ?_
        simp only [List.take_succ_cons, List.take_zero, List.drop_succ_cons, List.drop_zero]
        repeat (first | go_big_quiet_step (first | with_reducible exact hM1 _ _ | with_reducible exact hM2 _ _) | quiet_step (first | with_reducible exact hM1 _ _ | with_reducible exact hM2 _ _))
        refine wpQuiet_nil ?_
        intro w2 hw2
        obtain ⟨⟨dq, osq⟩, rfl⟩ := hw2
        have hb2 := below_regrown wr dq osq
        have Hcell2 : Hid ((Go.Sort.grow (redrawn wr dq) osq).heap[w.heap.size]? = some (.cells #[.string ⟨#[]⟩, .string ⟨#[]⟩] 30 (0, 0))) := by
          show _ = _
          rw [hb2.block _ (by have := Hcell.out; exact (Array.getElem?_eq_some_iff.1 this).1)]; exact Hcell.out
        have Hb2 := Lib.hid (Hbk.out.trans (hb2.mono Hbk.out.size))
        clear hb2 hM1 hM2 Hcell
        generalize Go.Sort.grow (redrawn wr dq) osq = w2 at *
        obtain ⟨k0, k1, f0, f1⟩ := two_cells Hcell2.out
        go_wp2
        obtain ⟨c0, c1, hb3⟩ := two_stored (.string rs) (.string rt) k0 k1 (Nat.le_refl _) Hb2.out
        generalize (w2.setCell ⟨w.heap.size, 0, none⟩ (.string rs)).setCell ⟨w.heap.size, 1, none⟩ (.string rt) = w3 at *
        exact bodyPost_ret (v := .agg #[.string rs, .string rt]) (by simp [results, Tryz.results80, go_sem, c0, c1]) rfl ⟨by rw [Hrs.out, Hrt.out], hb3⟩
      · have hxp : x = (g : Int) := by omega
        clear hxg
        subst hxp
        go_wp2_with fail
        refine wp_region_below_tail 9 (by kernel_rfl) (by kernel_rfl) ?_
        simp only [List.take_succ_cons, List.take_zero, List.drop_succ_cons, List.drop_zero]
        repeat (first | go_big_quiet_step (first | with_reducible exact hM1 _ _ | with_reducible exact hM2 _ _) | quiet_step (first | with_reducible exact hM1 _ _ | with_reducible exact hM2 _ _))
        refine wpQuiet_nil ?_
        intro w2 hw2
        obtain ⟨⟨dq, osq⟩, rfl⟩ := hw2
        have hb2 := below_regrown wr dq osq
        have Hcell2 : Hid ((Go.Sort.grow (redrawn wr dq) osq).heap[w.heap.size]? = some (.cells #[.string ⟨#[]⟩, .string ⟨#[]⟩] 30 (0, 0))) := by
          show _ = _
          rw [hb2.block _ (by have := Hcell.out; exact (Array.getElem?_eq_some_iff.1 this).1)]; exact Hcell.out
        have Hb2 := Lib.hid (Hbk.out.trans (hb2.mono Hbk.out.size))
        clear hb2 hM1 hM2 Hcell
        generalize Go.Sort.grow (redrawn wr dq) osq = w2 at *
        obtain ⟨k0, k1, f0, f1⟩ := two_cells Hcell2.out
        go_wp2
        obtain ⟨c0, c1, hb3⟩ := two_stored (.string rs) (.string rt) k0 k1 (Nat.le_refl _) Hb2.out
        generalize (w2.setCell ⟨w.heap.size, 0, none⟩ (.string rs)).setCell ⟨w.heap.size, 1, none⟩ (.string rt) = w3 at *
        exact bodyPost_ret (v := .agg #[.string rs, .string rt]) (by simp [results, Tryz.results80, go_sem, c0, c1]) rfl ⟨by rw [Hrs.out, Hrt.out], hb3⟩
    · have hyz : (y == 0) = false := by rw [beq_eq_false_iff_ne]; exact h0
      have htm : (Int.tmod x y).natAbs = x.natAbs % y.natAbs := Int.natAbs_tmod x y
      have hlt : (Int.tmod x y).natAbs < y.natAbs := by rw [htm]; exact Nat.mod_lt _ (by omega)
      have Hgn : Hid (Nat.gcd y.natAbs (Int.tmod x y).natAbs = g) := by
        show _ = _
        rw [htm, gcd_step]; exact Hxy.out
      have hwr : IntKind.i64.wrap (Int.tmod x y) = Int.tmod x y := IntWalk.i64_in _ (by omega)
      have Hw2 : Hid (∃ k, wr = (w.alloc (.cells #[.string ⟨#[]⟩, .string ⟨#[]⟩] 30)).drewN k) := Hw.out
      have Hlt := Lib.hid hlt
      clear htm Hxy Hw
      go_wp2_with fail
      go_quiet (fail)
      go_wp2
      go_roundw
      case rel =>
        refine ⟨y, Int.tmod x y, hy, by omega, rfl, rfl, Hgn, ?_⟩
        obtain ⟨k, hk⟩ := Hw2.out
        exact ⟨k + nq, by rw [hk]; exact World.drewN_drewN _ _ _⟩
      case measure => exact Hlt.out

end Go.Proofs.YtlomhfknmhaboaaGreatDoor

/- Fractions: lowest. (Printed by wip/tools/gen_frac.py.) -/
namespace Go.Proofs.YtlomhfknmhaboaaGreatDoor
open Go.RowKit

theorem stored_cell {W0 wk : World} {g : Nat} {a b : Value} {t : TypeId} (h : W0.heap[g]? = some (.cells #[a, b] t (0, 0))) (hb : Below W0.heap.size W0 wk) :
    wk.heap[g]? = some (.cells #[a, b] t (0, 0)) := by
  rw [hb.block g (Array.getElem?_eq_some_iff.1 h).1]; exact h

theorem sign_nat {d : Nat} (h : 0 < d) : ((d : Nat) : Int).sign = 1 := Int.sign_eq_one_of_pos (by omega)

set_option maxRecDepth 100000 in
set_option maxHeartbeats 4000000 in
theorem lowest_frac (w : World) (n : Int) (d g : Nat) (hn : ZNum n) (hd : Num d) (hd0 : 0 < d) (hn1 : Num (n.natAbs + 1)) (hd1 : Num (d + 1)) (hg : Nat.gcd n.natAbs d = g) (L : Laid w) :
    Gives Tryz.prog 81 #[.string (itx n), .string (dec d)] w (fv (n / (g : Int)) (d / g)) := by
  unfold Gives fv
  have hg0 : 0 < g := by rw [← hg]; exact Nat.gcd_pos_of_pos_right _ hd0
  have hgl : g ≤ d := by rw [← hg]; exact Nat.gcd_le_right _ hd0
  have hgn : Num g := hd.le hgl
  have Hb0 := Lib.hid ((Below.refl w.heap.size w).alloc (Nat.le_refl _) (.cells #[.string ⟨#[]⟩, .string ⟨#[]⟩] 30))
  have Hnew : Hid ((w.alloc (.cells #[.string ⟨#[]⟩, .string ⟨#[]⟩] 30)).heap[w.heap.size]? = some (.cells #[.string ⟨#[]⟩, .string ⟨#[]⟩] 30 (0, 0))) := heap_alloc_new w _
  have HL := Lib.hid (L.below Hb0.out)
  have Hsg : Hid (∀ W, Gives Tryz.prog 54 #[.string (dec d)] W (.int .i64 1)) := fun W => by
    have := sign_any W (d : Int)
    rw [itx_nat, sign_nat hd0] at this
    exact this
  clear L
  go_enter Tryz.func81, Tryz.ntmps81
  go_wp2_with fail
  generalize w.alloc (.cells #[.string ⟨#[]⟩, .string ⟨#[]⟩] 30) = W0 at *
  have Hgc : Hid (∀ W, Below W0.heap.size W0 W → Gives Tryz.prog 55 #[.string (itx n), .string (dec d)] W (.string (dec g))) := fun W hW => by
    have := gcdz_any W n (d : Int) hn (show Num _ from hd) (HL.out.below hW)
    rw [itx_nat, show Int.gcd n (d : Int) = g from hg] at this
    exact this
  have Hd1 : Hid (∀ W, Below W0.heap.size W0 W → Gives Tryz.prog 107 #[.string (itx n), .string (dec g)] W (.tuple #[.string (itx (n / (g : Int))), .string (itx (n % (g : Int))), .int .i64 0])) := fun W hW => divmodz_any W n g hn hgn hg0 hn1 (HL.out.below hW)
  have Hd2 : Hid (∀ W, Below W0.heap.size W0 W → Gives Tryz.prog 107 #[.string (dec d), .string (dec g)] W (.tuple #[.string (dec (d / g)), .string (itx ((d : Int) % (g : Int))), .int .i64 0])) := fun W hW => by
    have := divmodz_any W (d : Int) g (show Num _ from hd) hgn hg0 (show Num (d + 1) from hd1) (HL.out.below hW)
    rw [itx_nat, show (d : Int) / (g : Int) = ((d / g : Nat) : Int) from rfl, itx_nat] at this
    exact this
  have ho := is_one g
  by_cases h1 : g = 1
  · have Hrs : Hid (itx (n / (g : Int)) = itx n) := by show _ = _; rw [h1]; congr 1; exact Int.ediv_one n
    have Hrt : Hid (dec (d / g) = dec d) := by show _ = _; rw [h1, Nat.div_one]
    rw [decide_eq_true h1] at ho
    clear h1 Hd1 Hd2 hg hg0 hgl hgn hn hd hn1 hd1
    obtain ⟨s, hs⟩ : ∃ s, itx n = s := ⟨_, rfl⟩
    obtain ⟨t, ht⟩ : ∃ t, dec d = t := ⟨_, rfl⟩
    rw [hs] at Hrs Hgc ⊢
    rw [ht] at Hrt Hgc Hsg ⊢
    clear hs ht
    generalize dec g = u at *
    refine Calls.mono (Hsg.out _) ?_
    rintro e w1 ⟨rfl, hb1⟩
    have Hb1 := Lib.hid hb1
    clear hb1 Hsg
    go_wp2_with fail
    refine Calls.mono (Hgc.out w1 Hb1.out) ?_
    rintro e w2 ⟨rfl, hb2⟩
    have Hb2 := Lib.hid (Hb1.out.trans (hb2.mono Hb1.out.size))
    clear hb2 Hb1 Hgc
    have Hcell := Lib.hid (stored_cell Hnew.out Hb2.out)
    have Hbw := Lib.hid (Hb0.out.trans (Hb2.out.mono Hb0.out.size))
    obtain ⟨k0, k1, f0, f1⟩ := two_cells Hcell.out
    clear Hb2 Hb0 Hcell Hnew HL
    go_wp2
    obtain ⟨c0, c1, hb3⟩ := two_stored (.string s) (.string t) k0 k1 (Nat.le_refl _) Hbw.out
    generalize (w2.setCell ⟨w.heap.size, 0, none⟩ (.string s)).setCell ⟨w.heap.size, 1, none⟩ (.string t) = w9 at *
    exact bodyPost_ret (v := .agg #[.string s, .string t]) (by simp [results, Tryz.results81, go_sem, c0, c1]) rfl ⟨by rw [Hrs.out, Hrt.out], hb3⟩
  · rw [decide_eq_false h1] at ho
    obtain ⟨rs, hrs⟩ : ∃ rs, itx (n / (g : Int)) = rs := ⟨_, rfl⟩
    obtain ⟨rt, hrt⟩ : ∃ rt, dec (d / g) = rt := ⟨_, rfl⟩
    rw [hrs] at Hd1
    rw [hrt] at Hd2
    have Hrs := Lib.hid hrs
    have Hrt := Lib.hid hrt
    clear h1 hg hg0 hgl hgn hn hd hn1 hd1 hrs hrt
    generalize itx (n % (g : Int)) = e1 at Hd1
    generalize itx ((d : Int) % (g : Int)) = e2 at Hd2
    obtain ⟨s, hs⟩ : ∃ s, itx n = s := ⟨_, rfl⟩
    obtain ⟨t, ht⟩ : ∃ t, dec d = t := ⟨_, rfl⟩
    obtain ⟨u, hu⟩ : ∃ u, dec g = u := ⟨_, rfl⟩
    rw [hs] at Hd1 Hgc ⊢
    rw [ht] at Hd2 Hgc Hsg ⊢
    rw [hu] at Hd1 Hd2 Hgc ho
    clear hs ht hu
    refine Calls.mono (Hsg.out _) ?_
    rintro e w1 ⟨rfl, hb1⟩
    have Hb1 := Lib.hid hb1
    clear hb1 Hsg
    go_wp2_with fail
    refine Calls.mono (Hgc.out w1 Hb1.out) ?_
    rintro e w2 ⟨rfl, hb2⟩
    have Hb2 := Lib.hid (Hb1.out.trans (hb2.mono Hb1.out.size))
    clear hb2 Hb1 Hgc
    go_wp2_with fail
    refine Calls.mono (Hd1.out w2 Hb2.out) ?_
    rintro e w3 ⟨rfl, hb3⟩
    have Hb3 := Lib.hid (Hb2.out.trans (hb3.mono Hb2.out.size))
    clear hb3 Hb2 Hd1
    go_wp2_with fail
    refine Calls.mono (Hd2.out w3 Hb3.out) ?_
    rintro e w4 ⟨rfl, hb4⟩
    have Hb4 := Lib.hid (Hb3.out.trans (hb4.mono Hb3.out.size))
    clear hb4 Hb3 Hd2
    have Hcell := Lib.hid (stored_cell Hnew.out Hb4.out)
    have Hbw := Lib.hid (Hb0.out.trans (Hb4.out.mono Hb0.out.size))
    obtain ⟨k0, k1, f0, f1⟩ := two_cells Hcell.out
    clear Hb4 Hb0 Hcell Hnew HL
    go_wp2
    obtain ⟨c0, c1, hb3⟩ := two_stored (.string rs) (.string rt) k0 k1 (Nat.le_refl _) Hbw.out
    generalize (w4.setCell ⟨w.heap.size, 0, none⟩ (.string rs)).setCell ⟨w.heap.size, 1, none⟩ (.string rt) = w9 at *
    exact bodyPost_ret (v := .agg #[.string rs, .string rt]) (by simp [results, Tryz.results81, go_sem, c0, c1]) rfl ⟨by rw [Hrs.out, Hrt.out], hb3⟩

end Go.Proofs.YtlomhfknmhaboaaGreatDoor

/- Fractions: Mul. -/
namespace Go.Proofs.YtlomhfknmhaboaaGreatDoor
open Go.RowKit

/-- A quotient in lowest terms. -/
def redV (n : Int) (d : Nat) : Value := fv (n / ((Nat.gcd n.natAbs d : Nat) : Int)) (d / Nat.gcd n.natAbs d)

def obj (s t : ByteArray) : Obj := .cells #[.string s, .string t] 30

/-- Two fractions and an empty one, laid one behind the other. -/
structure Three (w : World) (s t s' t' : ByteArray) (W0 : World) : Prop where
  fa : W0.heap[w.heap.size]? = some (.cells #[.string s, .string t] 30 (0, 0))
  fb : W0.heap[w.heap.size + 1]? = some (.cells #[.string s', .string t'] 30 (0, 0))
  fr : W0.heap[w.heap.size + 1 + 1]? = some (.cells #[.string ⟨#[]⟩, .string ⟨#[]⟩] 30 (0, 0))
  bel : Below w.heap.size w W0

theorem Three.mk' (w : World) (s t s' t' : ByteArray) : Three w s t s' t' (((w.alloc (.cells #[.string s, .string t] 30)).alloc (.cells #[.string s', .string t'] 30)).alloc (.cells #[.string ⟨#[]⟩, .string ⟨#[]⟩] 30)) := by
  have hA := heap_alloc_new w (.cells #[.string s, .string t] 30)
  have hB := heap_alloc_new (w.alloc (.cells #[.string s, .string t] 30)) (.cells #[.string s', .string t'] 30)
  have hR := heap_alloc_new ((w.alloc (.cells #[.string s, .string t] 30)).alloc (.cells #[.string s', .string t'] 30)) (.cells #[.string ⟨#[]⟩, .string ⟨#[]⟩] 30)
  have e1 : (w.alloc (.cells #[.string s, .string t] 30)).heap.size = w.heap.size + 1 := by simp
  have e2 : ((w.alloc (.cells #[.string s, .string t] 30)).alloc (.cells #[.string s', .string t'] 30)).heap.size = w.heap.size + 1 + 1 := by simp
  refine ⟨?_, ?_, ?_, ?_⟩
  · exact stored_cell hA (((Below.refl _ _).alloc (Nat.le_refl _) _).alloc (by simp) _)
  · rw [e1] at hB
    exact stored_cell hB ((Below.refl _ _).alloc (Nat.le_refl _) _)
  · rw [e2] at hR; exact hR
  · exact (((Below.refl _ _).alloc (Nat.le_refl _) _).alloc (by simp) _).alloc (by simp; omega) _

theorem Three.next {w W0 W : World} {s t s' t' : ByteArray} (h : Three w s t s' t' W0) (hb : Below W0.heap.size W0 W) : Three w s t s' t' W :=
  ⟨stored_cell h.fa hb, stored_cell h.fb hb, stored_cell h.fr hb, h.bel.trans (hb.mono h.bel.size)⟩

theorem both_cases (w : World) (n : Int) (d : Nat) (hn : ZNum n) (hd : Num d) :
    (((itx n).size ≤ 9 ∧ (dec d).size ≤ 9) ∧ Gives Tryz.prog 79 #[fv n d] w (.tuple #[.int .i64 n, .int .i64 d, .bool true])) ∨
    (¬ ((itx n).size ≤ 9 ∧ (dec d).size ≤ 9) ∧ ∃ x y : Int, ∀ W, Gives Tryz.prog 79 #[fv n d] W (.tuple #[.int .i64 x, .int .i64 y, .bool false])) := by
  by_cases h1 : (itx n).size ≤ 9
  · by_cases h2 : (dec d).size ≤ 9
    · left
      have := both_frac w n d hn hd
      unfold bothV at this
      rw [if_pos h1, if_pos h2, decide_eq_true h1, decide_eq_true h2] at this
      exact ⟨⟨h1, h2⟩, this⟩
    · right
      refine ⟨fun h => h2 h.2, n, 0, fun W => ?_⟩
      have := both_frac W n d hn hd
      unfold bothV at this
      rw [if_pos h1, if_neg h2, decide_eq_false h2, Bool.and_false] at this
      exact this
  · right
    refine ⟨fun h => h1 h.1, 0, if (dec d).size ≤ 9 then d else 0, fun W => ?_⟩
    have := both_frac W n d hn hd
    unfold bothV at this
    rw [if_neg h1, decide_eq_false h1, Bool.false_and] at this
    exact this

theorem both_small (n : Int) (d : Nat) (hn : ZNum n) (hd : Num d) (h : (itx n).size ≤ 9 ∧ (dec d).size ≤ 9) (W : World) :
    Gives Tryz.prog 79 #[fv n d] W (.tuple #[.int .i64 n, .int .i64 d, .bool true]) := by
  rcases both_cases W n d hn hd with ⟨-, h2⟩ | ⟨h2, -⟩
  · exact h2
  · exact absurd h h2

theorem both_large (n : Int) (d : Nat) (hn : ZNum n) (hd : Num d) (h : ¬ ((itx n).size ≤ 9 ∧ (dec d).size ≤ 9)) :
    ∃ x y : Int, ∀ W, Gives Tryz.prog 79 #[fv n d] W (.tuple #[.int .i64 x, .int .i64 y, .bool false]) := by
  rcases both_cases default n d hn hd with ⟨h2, -⟩ | ⟨-, h2⟩
  · exact absurd h2 h
  · exact h2

set_option maxRecDepth 100000 in
set_option maxHeartbeats 8000000 in
theorem mul_frac (w : World) (n m : Int) (d e : Nat) (hn : ZNum n) (hm : ZNum m) (hd : Num d) (he : Num e) (hd0 : 0 < d) (he0 : 0 < e) (hnm : Num ((n * m).natAbs + 1)) (hde : Num (d * e + 1)) (L : Laid w) :
    Gives Tryz.prog 35 #[fv n d, fv m e] w (redV (n * m) (d * e)) := by
  obtain ⟨rs, hrs⟩ : ∃ rs, itx (n * m / ((Nat.gcd (n * m).natAbs (d * e) : Nat) : Int)) = rs := ⟨_, rfl⟩
  obtain ⟨rt, hrt⟩ : ∃ rt, dec (d * e / Nat.gcd (n * m).natAbs (d * e)) = rt := ⟨_, rfl⟩
  have hv : redV (n * m) (d * e) = .agg #[.string rs, .string rt] := by unfold redV fv; rw [hrs, hrt]
  have Hv := Lib.hid hv
  have hde0 : 0 < d * e := Nat.mul_pos hd0 he0
  unfold Gives
  have H3 := Lib.hid (Three.mk' w (itx n) (dec d) (itx m) (dec e))
  have HL := Lib.hid (L.below H3.out.bel)
  clear L
  have Hm1 : Hid (∀ W, Below (((w.alloc (.cells #[.string (itx n), .string (dec d)] 30)).alloc (.cells #[.string (itx m), .string (dec e)] 30)).alloc (.cells #[.string ⟨#[]⟩, .string ⟨#[]⟩] 30)).heap.size (((w.alloc (.cells #[.string (itx n), .string (dec d)] 30)).alloc (.cells #[.string (itx m), .string (dec e)] 30)).alloc (.cells #[.string ⟨#[]⟩, .string ⟨#[]⟩] 30)) W → ∀ d' os, Calls Tryz.prog 82 #[.string (itx n), .string (itx m)] (Go.Sort.grow (redrawn W d') os) fun x w'' => x = .returned (.string (itx (n * m))) ∧ ∃ p : Regrown, w'' = Go.Sort.grow (redrawn W p.d) p.os) := fun W hW d' os =>
    Calls.regrown_of (mulz_any _ n m hn hm (hnm.le (Nat.le_succ _)) ((HL.out.below hW).below (below_regrown W d' os)))
  have Hm2 : Hid (∀ W, Below (((w.alloc (.cells #[.string (itx n), .string (dec d)] 30)).alloc (.cells #[.string (itx m), .string (dec e)] 30)).alloc (.cells #[.string ⟨#[]⟩, .string ⟨#[]⟩] 30)).heap.size (((w.alloc (.cells #[.string (itx n), .string (dec d)] 30)).alloc (.cells #[.string (itx m), .string (dec e)] 30)).alloc (.cells #[.string ⟨#[]⟩, .string ⟨#[]⟩] 30)) W → ∀ d' os, Calls Tryz.prog 82 #[.string (dec d), .string (dec e)] (Go.Sort.grow (redrawn W d') os) fun x w'' => x = .returned (.string (dec (d * e))) ∧ ∃ p : Regrown, w'' = Go.Sort.grow (redrawn W p.d) p.os) := fun W hW d' os => by
    have := mulz_any (Go.Sort.grow (redrawn W d') os) (d : Int) (e : Int) (show Num _ from hd) (show Num _ from he) (show Num _ from by rw [Int.natAbs_mul]; exact hde.le (Nat.le_succ _)) ((HL.out.below hW).below (below_regrown W d' os))
    rw [itx_nat, itx_nat, ← Int.natCast_mul, itx_nat] at this
    exact Calls.regrown_of this
  have Hm3 : Hid (∀ W, Below (((w.alloc (.cells #[.string (itx n), .string (dec d)] 30)).alloc (.cells #[.string (itx m), .string (dec e)] 30)).alloc (.cells #[.string ⟨#[]⟩, .string ⟨#[]⟩] 30)).heap.size (((w.alloc (.cells #[.string (itx n), .string (dec d)] 30)).alloc (.cells #[.string (itx m), .string (dec e)] 30)).alloc (.cells #[.string ⟨#[]⟩, .string ⟨#[]⟩] 30)) W → ∀ d' os, Calls Tryz.prog 81 #[.string (itx (n * m)), .string (dec (d * e))] (Go.Sort.grow (redrawn W d') os) fun x w'' => x = .returned (.agg #[.string rs, .string rt]) ∧ ∃ p : Regrown, w'' = Go.Sort.grow (redrawn W p.d) p.os) := fun W hW d' os => by
    have := lowest_frac (Go.Sort.grow (redrawn W d') os) (n * m) (d * e) _ (hnm.le (Nat.le_succ _)) (hde.le (Nat.le_succ _)) hde0 hnm hde rfl ((HL.out.below hW).below (below_regrown W d' os))
    unfold fv at this
    rw [hrs, hrt] at this
    exact Calls.regrown_of this
  by_cases h1 : (itx n).size ≤ 9 ∧ (dec d).size ≤ 9
  · have Hc1 := Lib.hid (both_small n d hn hd h1)
    by_cases h2 : (itx m).size ≤ 9 ∧ (dec e).size ≤ 9
    · have Hc2 := Lib.hid (both_small m e hm he h2)
      have q1 := itx_lim n 9 (by decide) h1.1
      have q2 := itx_lim m 9 (by decide) h2.1
      have q3 := (dec_length d 9 (by decide)).1 (by rw [← dec_size]; exact h1.2)
      have q4 := (dec_length e 9 (by decide)).1 (by rw [← dec_size]; exact h2.2)
      have q5 : (n * m).natAbs ≤ 1000000000 * 1000000000 := by rw [Int.natAbs_mul]; exact Nat.mul_le_mul (by omega) (by omega)
      have q6 : d * e ≤ 1000000000 * 1000000000 := Nat.mul_le_mul (by omega) (by omega)
      have hw1 : IntKind.i64.wrap (n * m) = n * m := IntWalk.i64_in _ (by omega)
      have hw2 : IntKind.i64.wrap ((d : Int) * (e : Int)) = ((d * e : Nat) : Int) := by rw [← Int.natCast_mul]; exact IntWalk.i64_in _ ⟨Int.le_trans (by decide) (Int.natCast_nonneg _), Int.le_trans (Int.ofNat_le.2 q6) (by decide)⟩
      have Hof : Hid (∀ W, Below (((w.alloc (.cells #[.string (itx n), .string (dec d)] 30)).alloc (.cells #[.string (itx m), .string (dec e)] 30)).alloc (.cells #[.string ⟨#[]⟩, .string ⟨#[]⟩] 30)).heap.size (((w.alloc (.cells #[.string (itx n), .string (dec d)] 30)).alloc (.cells #[.string (itx m), .string (dec e)] 30)).alloc (.cells #[.string ⟨#[]⟩, .string ⟨#[]⟩] 30)) W → Gives Tryz.prog 80 #[.int .i64 (n * m), .int .i64 ((d * e : Nat) : Int)] W (.agg #[.string rs, .string rt])) := fun W hW => by
        have := of_frac W (n * m) (d * e) _ (by omega) (by omega) hde0 rfl (HL.out.below hW)
        unfold fv at this
        rw [hrs, hrt] at this
        exact this
      unfold fv at Hc1 Hc2 ⊢
      clear Hm1 Hm2 Hm3 q1 q2 q3 q4 q5 q6 h1 h2 hrs hrt hv hde0
      go_enter Tryz.func35, Tryz.ntmps35
      obtain ⟨k0, k1, -, -⟩ := two_cells H3.out.fa
      obtain ⟨k2, k3, -, -⟩ := two_cells H3.out.fb
      go_wp2_with fail
      generalize ((w.alloc (.cells #[.string (itx n), .string (dec d)] 30)).alloc (.cells #[.string (itx m), .string (dec e)] 30)).alloc (.cells #[.string ⟨#[]⟩, .string ⟨#[]⟩] 30) = W0 at *
      clear k0 k1 k2 k3
      refine Calls.mono (Hc1.out _) ?_
      rintro e w1 ⟨rfl, hb1⟩
      have Hb1 := Lib.hid hb1
      clear hb1 Hc1
      obtain ⟨k0, k1, -, -⟩ := two_cells (H3.out.next Hb1.out).fa
      obtain ⟨k2, k3, -, -⟩ := two_cells (H3.out.next Hb1.out).fb
      go_wp2_with fail
      clear k0 k1 k2 k3
      refine Calls.mono (Hc2.out _) ?_
      rintro e w2 ⟨rfl, hb2⟩
      have Hb2 := Lib.hid (Hb1.out.trans (hb2.mono Hb1.out.size))
      clear hb2 Hb1 Hc2
      go_wp2_with fail
      refine Calls.mono (Hof.out w2 Hb2.out) ?_
      rintro e w3 ⟨rfl, hb3⟩
      have Hb3 := Lib.hid (Hb2.out.trans (hb3.mono Hb2.out.size))
      clear hb3 Hb2 Hof
      have H8 := Lib.hid (H3.out.next Hb3.out)
      clear H3 Hb3
      obtain ⟨k0, k1, f0, f1⟩ := two_cells H8.out.fr
      have Hbw := Lib.hid H8.out.bel
      clear H8
      go_wp2
      obtain ⟨c0, c1, hb3⟩ := two_stored (B := w.heap.size) (.string rs) (.string rt) k0 k1 (by omega) Hbw.out
      generalize (w3.setCell ⟨w.heap.size + 1 + 1, 0, none⟩ (.string rs)).setCell ⟨w.heap.size + 1 + 1, 1, none⟩ (.string rt) = w9 at *
      exact bodyPost_ret (v := .agg #[.string rs, .string rt]) (by simp [results, Tryz.results35, go_sem, c0, c1]) rfl ⟨by rw [Hv.out], hb3⟩
    · obtain ⟨x, y, hc2⟩ := both_large m e hm he h2
      have Hc2 := Lib.hid hc2
      unfold fv at Hc1 Hc2 ⊢
      clear h1 h2 hrs hrt hv hde0 hc2
      go_enter Tryz.func35, Tryz.ntmps35
      obtain ⟨k0, k1, -, -⟩ := two_cells H3.out.fa
      obtain ⟨k2, k3, -, -⟩ := two_cells H3.out.fb
      go_wp2_with fail
      generalize ((w.alloc (.cells #[.string (itx n), .string (dec d)] 30)).alloc (.cells #[.string (itx m), .string (dec e)] 30)).alloc (.cells #[.string ⟨#[]⟩, .string ⟨#[]⟩] 30) = W0 at *
      clear k0 k1 k2 k3
      refine Calls.mono (Hc1.out _) ?_
      rintro e w1 ⟨rfl, hb1⟩
      have Hb1 := Lib.hid hb1
      clear hb1 Hc1
      obtain ⟨k0, k1, -, -⟩ := two_cells (H3.out.next Hb1.out).fa
      obtain ⟨k2, k3, -, -⟩ := two_cells (H3.out.next Hb1.out).fb
      go_wp2_with fail
      clear k0 k1 k2 k3
      refine Calls.mono (Hc2.out _) ?_
      rintro e w2 ⟨rfl, hb2⟩
      have Hb2 := Lib.hid (Hb1.out.trans (hb2.mono Hb1.out.size))
      clear hb2 Hb1 Hc2
      obtain ⟨k0, k1, -, -⟩ := two_cells (H3.out.next Hb2.out).fa
      obtain ⟨k2, k3, -, -⟩ := two_cells (H3.out.next Hb2.out).fb
      have q0 := cell_regrown k0
      have q1 := cell_regrown k1
      have q2 := cell_regrown k2
      have q3 := cell_regrown k3
      have hM1 := Hm1.out w2 Hb2.out
      have hM2 := Hm2.out w2 Hb2.out
      have hM3 := Hm3.out w2 Hb2.out
      clear k0 k1 k2 k3 Hm1 Hm2 Hm3
      go_wp2_with fail
      refine wp_region_below_tail 11 (by kernel_rfl) (by kernel_rfl) ?_
      simp only [List.take_succ_cons, List.take_zero, List.drop_succ_cons, List.drop_zero]
      repeat (first | go_big_quiet_step (first | with_reducible exact hM1 _ _ | with_reducible exact hM2 _ _ | with_reducible exact hM3 _ _) | quiet_step (first | with_reducible exact hM1 _ _ | with_reducible exact hM2 _ _ | with_reducible exact hM3 _ _))
      refine wpQuiet_nil ?_
      intro w8 hw8
      obtain ⟨⟨dq, osq⟩, rfl⟩ := hw8
      have hb8 := below_regrown w2 dq osq
      have H8 := Lib.hid ((H3.out.next Hb2.out).next hb8)
      clear hb8 hM1 hM2 hM3 q0 q1 q2 q3 H3 Hb2
      generalize Go.Sort.grow (redrawn w2 dq) osq = w8 at *
      obtain ⟨k0, k1, f0, f1⟩ := two_cells H8.out.fr
      have Hbw := Lib.hid H8.out.bel
      clear H8
      go_wp2
      obtain ⟨c0, c1, hb3⟩ := two_stored (B := w.heap.size) (.string rs) (.string rt) k0 k1 (by omega) Hbw.out
      generalize (w8.setCell ⟨w.heap.size + 1 + 1, 0, none⟩ (.string rs)).setCell ⟨w.heap.size + 1 + 1, 1, none⟩ (.string rt) = w9 at *
      exact bodyPost_ret (v := .agg #[.string rs, .string rt]) (by simp [results, Tryz.results35, go_sem, c0, c1]) rfl ⟨by rw [Hv.out], hb3⟩
  · obtain ⟨x, y, hc1⟩ := both_large n d hn hd h1
    have Hc1 := Lib.hid hc1
    unfold fv at Hc1 ⊢
    clear h1 hrs hrt hv hde0 hc1
    go_enter Tryz.func35, Tryz.ntmps35
    obtain ⟨k0, k1, -, -⟩ := two_cells H3.out.fa
    obtain ⟨k2, k3, -, -⟩ := two_cells H3.out.fb
    go_wp2_with fail
    generalize ((w.alloc (.cells #[.string (itx n), .string (dec d)] 30)).alloc (.cells #[.string (itx m), .string (dec e)] 30)).alloc (.cells #[.string ⟨#[]⟩, .string ⟨#[]⟩] 30) = W0 at *
    clear k0 k1 k2 k3
    refine Calls.mono (Hc1.out _) ?_
    rintro e w1 ⟨rfl, hb1⟩
    have Hb1 := Lib.hid hb1
    clear hb1 Hc1
    obtain ⟨k0, k1, -, -⟩ := two_cells (H3.out.next Hb1.out).fa
    obtain ⟨k2, k3, -, -⟩ := two_cells (H3.out.next Hb1.out).fb
    have q0 := cell_regrown k0
    have q1 := cell_regrown k1
    have q2 := cell_regrown k2
    have q3 := cell_regrown k3
    have hM1 := Hm1.out w1 Hb1.out
    have hM2 := Hm2.out w1 Hb1.out
    have hM3 := Hm3.out w1 Hb1.out
    clear k0 k1 k2 k3 Hm1 Hm2 Hm3
    go_wp2_with fail
    refine wp_region_below_tail 11 (by kernel_rfl) (by kernel_rfl) ?_
    simp only [List.take_succ_cons, List.take_zero, List.drop_succ_cons, List.drop_zero]
    repeat (first | go_big_quiet_step (first | with_reducible exact hM1 _ _ | with_reducible exact hM2 _ _ | with_reducible exact hM3 _ _) | quiet_step (first | with_reducible exact hM1 _ _ | with_reducible exact hM2 _ _ | with_reducible exact hM3 _ _))
    refine wpQuiet_nil ?_
    intro w8 hw8
    obtain ⟨⟨dq, osq⟩, rfl⟩ := hw8
    have hb8 := below_regrown w1 dq osq
    have H8 := Lib.hid ((H3.out.next Hb1.out).next hb8)
    clear hb8 hM1 hM2 hM3 q0 q1 q2 q3 H3 Hb1
    generalize Go.Sort.grow (redrawn w1 dq) osq = w8 at *
    obtain ⟨k0, k1, f0, f1⟩ := two_cells H8.out.fr
    have Hbw := Lib.hid H8.out.bel
    clear H8
    go_wp2
    obtain ⟨c0, c1, hb3⟩ := two_stored (B := w.heap.size) (.string rs) (.string rt) k0 k1 (by omega) Hbw.out
    generalize (w8.setCell ⟨w.heap.size + 1 + 1, 0, none⟩ (.string rs)).setCell ⟨w.heap.size + 1 + 1, 1, none⟩ (.string rt) = w9 at *
    exact bodyPost_ret (v := .agg #[.string rs, .string rt]) (by simp [results, Tryz.results35, go_sem, c0, c1]) rfl ⟨by rw [Hv.out], hb3⟩

end Go.Proofs.YtlomhfknmhaboaaGreatDoor
