/- For any list of at most 8 primes and any size of at most 8 coefficients with numbers of at most 45 digits, Check and CheckAll return OK or the first error, and so do the functions with a size; Equal compares coefficients. No condition: the statement holds for every input. -/
import Derived.Test.YtlomhfknmhaboaaGreatDoorCards
import Derived.Test.YtlomhfknmhaboaaGreatDoorTie
import Derived.SevenTiedAt
import Derived.Test.YtlomhfknmhaboaaGreatDoorMg5
/- Comparing sizes of whatever texts; the law's few and check. -/
namespace Go.Proofs.YtlomhfknmhaboaaGreatDoor
open Go.RowKit

theorem eqS_dec (x y : ByteArray × ByteArray) : (x.1.toList == y.1.toList && x.2.toList == y.2.toList) = decide (x = y) := by
  by_cases h : x = y
  · subst h; simp
  · rw [decide_eq_false h, Bool.eq_false_iff]
    intro hc
    rw [Bool.and_eq_true] at hc
    exact h (Prod.ext (toList_inj hc.1) (toList_inj hc.2))

theorem quiet_neqS {C : World → Prop} {K : Act → Prop} {a : Act} {o : Oper} (x y : Operand) (r : TypeId) (p q : ByteArray × ByteArray) (h : o.op = .binOp .neq 30 x y r) (hx : a.eval x = .agg #[.string p.1, .string p.2]) (hy : a.eval y = .agg #[.string q.1, .string q.2])
    (hk : K (a.put o.dst (.bool (!decide (p = q))))) : o.quiet Tryz.prog a C K :=
  ⟨_, fun w _ => by
    unfold Oper.quietAt execOp
    rw [h]
    simp only [Sem.run_bind, hx, hy, guardQ_run, neqQ_run, Result.andThen_ok, Sem.run_pure, eqS_dec]
    exact ⟨rfl, rfl⟩, hk⟩

theorem rds_at {w wr : World} {a : Option Addr} {l : Pairs} {B : Nat} (h : Rd w a (cellsS l)) (hb : Below B w wr) (hB : w.heap.size ≤ B) (k : Nat) (hk : k < l.length) :
    ∃ b off, a = some ⟨b, off, none⟩ ∧ wr.cell? ⟨b, off + k * 2, none⟩ = some (.string l[k].1) ∧ wr.cell? ⟨b, off + k * 2 + 1, none⟩ = some (.string l[k].2) := by
  obtain ⟨b, off, rfl, hbl, hcells⟩ := h.open (by rw [cellsS_length]; omega)
  obtain ⟨x0, x1⟩ := cellsS_rd hcells k hk
  have e : l.getD k default = l[k] := by rw [List.getD_eq_getElem?_getD, List.getElem?_eq_getElem hk]; rfl
  rw [← hb.cell (p := ⟨b, off + k * 2, none⟩) (Nat.lt_of_lt_of_le hbl hB), e] at x0
  rw [← hb.cell (p := ⟨b, off + k * 2 + 1, none⟩) (Nat.lt_of_lt_of_le hbl hB), e] at x1
  exact ⟨b, off, rfl, x0, x1⟩


set_option maxRecDepth 100000 in
set_option maxHeartbeats 8000000 in
theorem equalS_any (w : World) (a1 a2 : Option Addr) (c1 c2 : Nat) (la lb : Pairs) (r1 : Rd w a1 (cellsS la)) (r2 : Rd w a2 (cellsS lb)) (hbig : la.length ≤ 1000000) :
    Gives Tryz.prog 20 #[.slice a1 la.length c1, .slice a2 lb.length c2] w (.bool (decide (la = lb))) := by
  unfold Gives
  by_cases hl : la.length = lb.length
  · have R1 := Lib.hid r1
    have R2 := Lib.hid r2
    have Hyes : Hid (∀ k, (∀ j (h1 : j < la.length) (h2 : j < lb.length), j < k → la[j] = lb[j]) → k = la.length → la = lb) := fun k h hk => List.ext_getElem hl fun i h1 h2 => h i h1 h2 (by omega)
    have Hno : Hid (∀ k (h1 : k < la.length) (h2 : k < lb.length), la[k] ≠ lb[k] → ¬ la = lb) := fun k h1 h2 hne he => hne (by subst he; rfl)
    obtain ⟨n, hn⟩ : ∃ n, la.length = n := ⟨_, rfl⟩
    have hm : lb.length = n := hl.symm.trans hn
    rw [hn] at hbig
    rw [hn, hm]
    have Hn := Lib.hid hn
    have Hm := Lib.hid hm
    clear hl r1 r2 hn hm
    go_enter Tryz.func20, Tryz.ntmps20
    go_wp2_with fail
    go_loopw [5] (fun i wr => ∃ k : Nat, k ≤ n ∧ i = .int .i64 k ∧ Hid (∀ j (h1 : j < la.length) (h2 : j < lb.length), j < k → la[j] = lb[j]) ∧ Hid (Below w.heap.size w wr)) (fun i _ => n - (intOf i).toNat)
    case atStart => exact ⟨0, Nat.zero_le _, rfl, fun j _ _ hj => absurd hj (Nat.not_lt_zero _), Below.refl _ _⟩
    case round =>
      obtain ⟨k, hk, rfl, Hp, B⟩ := hrel
      by_cases hlt : k < n
      · have hlt' : (k : Int) < n := by omega
        have h1 : k < la.length := by rw [Hn.out]; exact hlt
        have h2 : k < lb.length := by rw [Hm.out]; exact hlt
        obtain ⟨b, off, rfl, x0, x1⟩ := rds_at R1.out B.out (Nat.le_refl _) k h1
        obtain ⟨b', off', rfl, y0, y1⟩ := rds_at R2.out B.out (Nat.le_refl _) k h2
        have Hp' : Hid (la[k] = lb[k] → ∀ j (h1 : j < la.length) (h2 : j < lb.length), j < k + 1 → la[j] = lb[j]) := fun he j g1 g2 hj => by
          rcases Nat.lt_or_ge j k with h | h
          · exact Hp.out j g1 g2 h
          · have e : j = k := by omega
            subst e; exact he
        have Hnk := Lib.hid (Hno.out k h1 h2)
        clear Hp
        generalize la[k] = p at *
        generalize lb[k] = q at *
        have q0 := cell_regrown x0
        have q1 := cell_regrown x1
        have q2 := cell_regrown y0
        have q3 := cell_regrown y1
        have HK := Lib.hid hlt
        go_wp2_with fail
        clear x0 x1 y0 y1
        refine wp_region_quiet_below (by kernel_rfl) (by kernel_rfl) ?_
        repeat (first | go_big_quiet_step (fail) | quiet_step (fail))
        refine BigFrame.wpQuiet_want rfl fun K hK => quiet_neqS _ _ _ p q rfl rfl rfl (hK _ ?_)
        refine wpQuiet_nil ?_
        intro w6 hw6
        obtain ⟨⟨dq, osq⟩, rfl⟩ := hw6
        have B6 := Lib.hid (B.out.trans ((below_regrown wr dq osq).mono B.out.size))
        clear q0 q1 q2 q3 B
        generalize Go.Sort.grow (redrawn wr dq) osq = w6 at *
        by_cases hpq : p = q
        · rw [decide_eq_true hpq]
          have Hq := Lib.hid (Hp'.out hpq)
          clear hpq Hp' Hnk
          go_wp2_with fail
          go_roundw
          case rel => exact ⟨k + 1, HK.out, by go_num, Hq, B6⟩
          case measure => simp [intOf]; omega
        · rw [decide_eq_false hpq]
          have Hz : Hid (decide (la = lb) = false) := decide_eq_false (Hnk.out hpq)
          clear hpq Hp' Hnk
          go_wp2_with fail
          go_ret
          exact ⟨by rw [Hz.out]; rfl, B6.out⟩
      · have hlt' : ¬ (k : Int) < n := by omega
        have Hz : Hid (decide (la = lb) = true) := decide_eq_true (Hyes.out k Hp.out (by rw [Hn.out]; omega))
        clear Hp
        go_wp2_with fail
        go_ret
        exact ⟨by rw [Hz.out]; rfl, B.out⟩
  · have Hz : Hid (decide (la = lb) = false) := decide_eq_false fun h => hl (by rw [h])
    have hne : ((la.length : Int) == lb.length) = false := by rw [beq_eq_false_iff_ne]; omega
    clear r1 r2 hl
    generalize la.length = n at *
    generalize lb.length = m at *
    go_enter Tryz.func20, Tryz.ntmps20
    go_wp2_with fail
    go_ret
    exact ⟨by rw [Hz.out]; rfl, Below.refl _ _⟩


set_option maxRecDepth 100000 in
set_option maxHeartbeats 8000000 in
theorem sEqual_any (w : World) (a1 a2 : Option Addr) (c1 c2 : Nat) (la lb : Pairs) (r1 : Rd w a1 (cellsS la)) (r2 : Rd w a2 (cellsS lb)) (hbig : la.length ≤ 1000000) :
    Gives Tryz.prog 95 #[.slice a1 la.length c1, .slice a2 lb.length c2] w (.bool (decide (la = lb))) := by
  unfold Gives
  by_cases hl : la.length = lb.length
  · have R1 := Lib.hid r1
    have R2 := Lib.hid r2
    have Hyes : Hid (∀ k, (∀ j (h1 : j < la.length) (h2 : j < lb.length), j < k → la[j] = lb[j]) → k = la.length → la = lb) := fun k h hk => List.ext_getElem hl fun i h1 h2 => h i h1 h2 (by omega)
    have Hno : Hid (∀ k (h1 : k < la.length) (h2 : k < lb.length), la[k] ≠ lb[k] → ¬ la = lb) := fun k h1 h2 hne he => hne (by subst he; rfl)
    obtain ⟨n, hn⟩ : ∃ n, la.length = n := ⟨_, rfl⟩
    have hm : lb.length = n := hl.symm.trans hn
    rw [hn] at hbig
    rw [hn, hm]
    have Hn := Lib.hid hn
    have Hm := Lib.hid hm
    clear hl r1 r2 hn hm
    go_enter Tryz.func95, Tryz.ntmps95
    go_wp2_with fail
    go_loopw [13] (fun i wr => ∃ k : Nat, k ≤ n ∧ i = .int .i64 k ∧ Hid (∀ j (h1 : j < la.length) (h2 : j < lb.length), j < k → la[j] = lb[j]) ∧ Hid (Below w.heap.size w wr)) (fun i _ => n - (intOf i).toNat)
    case atStart => exact ⟨0, Nat.zero_le _, rfl, fun j _ _ hj => absurd hj (Nat.not_lt_zero _), Below.refl _ _⟩
    case round =>
      obtain ⟨k, hk, rfl, Hp, B⟩ := hrel
      by_cases hlt : k < n
      · have hlt' : (k : Int) < n := by omega
        have h1 : k < la.length := by rw [Hn.out]; exact hlt
        have h2 : k < lb.length := by rw [Hm.out]; exact hlt
        obtain ⟨b, off, rfl, x0, x1⟩ := rds_at R1.out B.out (Nat.le_refl _) k h1
        obtain ⟨b', off', rfl, y0, y1⟩ := rds_at R2.out B.out (Nat.le_refl _) k h2
        have Hp' : Hid (la[k] = lb[k] → ∀ j (h1 : j < la.length) (h2 : j < lb.length), j < k + 1 → la[j] = lb[j]) := fun he j g1 g2 hj => by
          rcases Nat.lt_or_ge j k with h | h
          · exact Hp.out j g1 g2 h
          · have e : j = k := by omega
            subst e; exact he
        have Hnk := Lib.hid (Hno.out k h1 h2)
        clear Hp
        generalize la[k] = p at *
        generalize lb[k] = q at *
        have q0 := cell_regrown x0
        have q1 := cell_regrown x1
        have q2 := cell_regrown y0
        have q3 := cell_regrown y1
        have HK := Lib.hid hlt
        go_wp2_with fail
        clear x0 x1 y0 y1
        refine wp_region_quiet_below (by kernel_rfl) (by kernel_rfl) ?_
        repeat (first | go_big_quiet_step (fail) | quiet_step (fail))
        refine BigFrame.wpQuiet_want rfl fun K hK => quiet_neqS _ _ _ p q rfl rfl rfl (hK _ ?_)
        refine wpQuiet_nil ?_
        intro w6 hw6
        obtain ⟨⟨dq, osq⟩, rfl⟩ := hw6
        have B6 := Lib.hid (B.out.trans ((below_regrown wr dq osq).mono B.out.size))
        clear q0 q1 q2 q3 B
        generalize Go.Sort.grow (redrawn wr dq) osq = w6 at *
        by_cases hpq : p = q
        · rw [decide_eq_true hpq]
          have Hq := Lib.hid (Hp'.out hpq)
          clear hpq Hp' Hnk
          go_wp2_with fail
          go_roundw
          case rel => exact ⟨k + 1, HK.out, by go_num, Hq, B6⟩
          case measure => simp [intOf]; omega
        · rw [decide_eq_false hpq]
          have Hz : Hid (decide (la = lb) = false) := decide_eq_false (Hnk.out hpq)
          clear hpq Hp' Hnk
          go_wp2_with fail
          go_ret
          exact ⟨by rw [Hz.out]; rfl, B6.out⟩
      · have hlt' : ¬ (k : Int) < n := by omega
        have Hz : Hid (decide (la = lb) = true) := decide_eq_true (Hyes.out k Hp.out (by rw [Hn.out]; omega))
        clear Hp
        go_wp2_with fail
        go_ret
        exact ⟨by rw [Hz.out]; rfl, B.out⟩
  · have Hz : Hid (decide (la = lb) = false) := decide_eq_false fun h => hl (by rw [h])
    have hne : ((la.length : Int) == lb.length) = false := by rw [beq_eq_false_iff_ne]; omega
    clear r1 r2 hl
    generalize la.length = n at *
    generalize lb.length = m at *
    go_enter Tryz.func95, Tryz.ntmps95
    go_wp2_with fail
    go_ret
    exact ⟨by rw [Hz.out]; rfl, Below.refl _ _⟩


set_option maxHeartbeats 4000000 in
theorem sizeEqual_any (w : World) (a1 a2 : Option Addr) (c1 c2 : Nat) (la lb : Pairs) (r1 : Rd w a1 (cellsS la)) (r2 : Rd w a2 (cellsS lb)) (hbig : la.length ≤ 1000000) :
    Gives Tryz.prog 53 #[.slice a1 la.length c1, .slice a2 lb.length c2] w (.bool (decide (la = lb))) := by
  have HA := Lib.hid (sEqual_any w a1 a2 c1 c2 la lb r1 r2 hbig)
  unfold Gives at *
  clear r1 r2 hbig
  generalize decide (la = lb) = z at *
  generalize la.length = n at *
  generalize lb.length = m at *
  go_enter Tryz.func53, Tryz.ntmps53
  go_wp2_with fail
  refine Calls.mono HA.out ?_
  rintro e w1 ⟨rfl, hb⟩
  have B1 := Lib.hid hb
  clear hb HA
  go_wp2_with fail
  go_ret
  exact ⟨rfl, B1.out⟩

/-- Few enough, and short enough. -/
def fewB (n : Nat) (l : Pairs) : Bool := decide (n ≤ 8) && decide (l.length ≤ 8) && l.all fun x => decide (x.1.size ≤ 45) && decide (x.2.size ≤ 45)
theorem few_of {n : Nat} {l : Pairs} (h : fewB n l = true) : n ≤ 8 ∧ l.length ≤ 8 ∧ ∀ x ∈ l, x.1.size ≤ 45 ∧ x.2.size ≤ 45 := by
  unfold fewB at h
  simp only [Bool.and_eq_true, decide_eq_true_eq, List.all_eq_true] at h
  exact ⟨h.1.1, h.1.2, h.2⟩

set_option maxRecDepth 100000 in
set_option maxHeartbeats 8000000 in
theorem few_any (w : World) (a0 a1 : Option Addr) (c0 c1 n : Nat) (l : Pairs) (r1 : Rd w a1 (cellsS l)) :
    Gives Tryz.prog 49 #[.slice a0 n c0, .slice a1 l.length c1] w (.bool (fewB n l)) := by
  unfold Gives
  by_cases h8 : (8 : Int) < n
  · have Hz : Hid (fewB n l = false) := by show _ = _; unfold fewB; rw [decide_eq_false (show ¬ n ≤ 8 by omega)]; rfl
    clear r1
    generalize l.length = m at *
    go_enter Tryz.func49, Tryz.ntmps49
    go_wp2_with fail
    go_ret
    exact ⟨by rw [Hz.out]; rfl, Below.refl _ _⟩
  · by_cases h9 : (8 : Int) < l.length
    · have Hz : Hid (fewB n l = false) := by show _ = _; unfold fewB; rw [decide_eq_false (show ¬ l.length ≤ 8 by omega)]; simp
      clear r1
      generalize l.length = m at *
      go_enter Tryz.func49, Tryz.ntmps49
      go_wp2_with fail
      go_ret
      exact ⟨by rw [Hz.out]; rfl, Below.refl _ _⟩
    · have R1 := Lib.hid r1
      have Hyes : Hid (∀ k, (∀ i (h : i < l.length), i < k → l[i].1.size ≤ 45 ∧ l[i].2.size ≤ 45) → k = l.length → fewB n l = true) := fun k h hk => by
        unfold fewB
        simp only [Bool.and_eq_true, decide_eq_true_eq, List.all_eq_true]
        refine ⟨⟨by omega, by omega⟩, fun x hx => ?_⟩
        obtain ⟨i, hi, rfl⟩ := List.mem_iff_getElem.1 hx
        exact h i hi (by omega)
      have Hno : Hid (∀ k (h : k < l.length), ¬ (l[k].1.size ≤ 45 ∧ l[k].2.size ≤ 45) → fewB n l = false) := fun k h hh => by
        cases hf : fewB n l
        · rfl
        · exact absurd ((few_of hf).2.2 _ (List.getElem_mem h)) hh
      obtain ⟨m, hm⟩ : ∃ m, l.length = m := ⟨_, rfl⟩
      rw [hm] at h9 ⊢
      have Hm := Lib.hid hm
      clear r1 hm
      generalize fewB n l = z at *
      go_enter Tryz.func49, Tryz.ntmps49
      go_wp2_with fail
      go_loopw [5] (fun i wr => ∃ k : Nat, k ≤ m ∧ i = .int .i64 k ∧ Hid (∀ i (h : i < l.length), i < k → l[i].1.size ≤ 45 ∧ l[i].2.size ≤ 45) ∧ Hid (Below w.heap.size w wr)) (fun i _ => m - (intOf i).toNat)
      case atStart => exact ⟨0, Nat.zero_le _, rfl, fun j _ hj => absurd hj (Nat.not_lt_zero _), Below.refl _ _⟩
      case round =>
        obtain ⟨k, hk, rfl, Hp, B⟩ := hrel
        by_cases hlt : k < m
        · have hlt' : (k : Int) < m := by omega
          have h1 : k < l.length := by rw [Hm.out]; exact hlt
          obtain ⟨b, off, rfl, x0, x1⟩ := rds_at R1.out B.out (Nat.le_refl _) k h1
          have Hp' : Hid (l[k].1.size ≤ 45 ∧ l[k].2.size ≤ 45 → ∀ i (h : i < l.length), i < k + 1 → l[i].1.size ≤ 45 ∧ l[i].2.size ≤ 45) := fun he j g1 hj => by
            rcases Nat.lt_or_ge j k with h | h
            · exact Hp.out j g1 h
            · have e : j = k := by omega
              subst e; exact he
          have Hnk := Lib.hid (Hno.out k h1)
          clear Hp
          generalize l[k] = p at *
          obtain ⟨s, t⟩ := p
          simp only at x0 x1 Hnk Hp'
          have HK := Lib.hid hlt
          by_cases g1 : (45 : Int) < s.size
          · have Hz := Lib.hid (Hnk.out (by omega))
            clear Hnk Hp'
            go_wp2_with fail
            go_ret
            exact ⟨by rw [Hz.out]; rfl, B.out⟩
          · by_cases g2 : (45 : Int) < t.size
            · have Hz := Lib.hid (Hnk.out (by omega))
              clear Hnk Hp'
              go_wp2_with fail
              go_ret
              exact ⟨by rw [Hz.out]; rfl, B.out⟩
            · have Hq := Lib.hid (Hp'.out ⟨by omega, by omega⟩)
              clear Hnk Hp'
              go_wp2_with fail
              go_roundw
              case rel => exact ⟨k + 1, HK.out, by go_num, Hq, B⟩
              case measure => simp [intOf]; omega
        · have hlt' : ¬ (k : Int) < m := by omega
          have Hz := Lib.hid (Hyes.out k Hp.out (by rw [Hm.out]; omega))
          clear Hp
          go_wp2_with fail
          go_ret
          exact ⟨by rw [Hz.out]; rfl, B.out⟩

end Go.Proofs.YtlomhfknmhaboaaGreatDoor

/- The law's check; Sort and Scale where a size is wrong. -/
namespace Go.Proofs.YtlomhfknmhaboaaGreatDoor
open Go.RowKit

open Classical in
theorem sgo_cons (x : ByteArray × ByteArray) (l : Pairs) : sgo (x :: l) = if IsQ x.1 x.2 then (if ∃ q : Rat, x = qs q ∧ shortQ q then sgo l else 4) else 2 := by
  show (if _ then _ else _) = _
  have e : (∃ q : Rat, x = qs q ∧ Sm 400 q) ↔ IsQ x.1 x.2 := by
    constructor
    · rintro ⟨q, rfl, h⟩; exact ⟨q, rfl, rfl, h⟩
    · rintro ⟨q, h1, h2, h⟩; exact ⟨q, Prod.ext h1 h2, h⟩
  by_cases h : IsQ x.1 x.2
  · rw [if_pos h, if_pos (e.2 h)]
  · rw [if_neg h, if_neg (fun hh => h (e.1 hh))]

theorem short_ex (q : Rat) : (∃ p : Rat, qs q = qs p ∧ shortQ p) ↔ shortQ q := by
  constructor
  · rintro ⟨p, h, hs⟩; rw [qs_inj h]; exact hs
  · intro h; exact ⟨q, rfl, h⟩

open Classical in
set_option maxRecDepth 100000 in
set_option maxHeartbeats 8000000 in
theorem lcheck_any (w : World) (a0 a1 : Option Addr) (c0 c1 : Nat) (ps : List Int) (l : Pairs) (rp : Rd w a0 (ints ps)) (hi : I64s ps) (hl0 : ps.length ≤ 1000) (r1 : Rd w a1 (cellsS l)) (hl : l.length ≤ 1000) (hs : Ssz l) (L : Laid w) :
    Gives Tryz.prog 50 #[.slice a0 ps.length c0, .slice a1 l.length c1] w (.int .i64 (ccode ps l)) := by
  unfold Gives
  have HP := Lib.hid (primeCheck_any w a0 c0 ps rp hi (by omega))
  have Hv : Hid (ccode ps l = if pcode ps = 0 then scode ps.length l else pcode ps) := Lib.hid rfl
  have HL := Lib.hid L
  have R1 := Lib.hid r1
  have Hs := Lib.hid hs
  clear rp hi r1 hs L
  generalize ccode ps l = v at *
  by_cases hp : pcode ps = 0
  · rw [hp] at HP Hv
    by_cases hlen : l.length = ps.length
    · have Hvv : Hid (v = sgo l) := by show _ = _; rw [Hv.out, if_pos rfl]; unfold scode; rw [if_pos hlen]
      rw [← hlen] at HP ⊢
      clear Hv hp hlen
      obtain ⟨m, hm⟩ : ∃ m, l.length = m := ⟨_, rfl⟩
      rw [hm] at HP hl ⊢
      have Hm := Lib.hid hm
      clear hm hl0
      go_enter Tryz.func50, Tryz.ntmps50
      go_wp2_with fail
      refine Calls.mono HP.out ?_
      rintro e w1 ⟨rfl, hb⟩
      have B1 := Lib.hid hb
      clear hb HP
      go_wp2_with fail
      go_loopw [6] (fun i wr => ∃ k : Nat, k ≤ m ∧ i = .int .i64 k ∧ Hid (sgo l = sgo (l.drop k)) ∧ Hid (Below w.heap.size w wr)) (fun i _ => m - (intOf i).toNat)
      case atStart => exact ⟨0, Nat.zero_le _, rfl, rfl, B1⟩
      case round =>
        clear B1
        obtain ⟨k, hk, rfl, Hg, B⟩ := hrel
        by_cases hlt : k < m
        · have hlt' : (k : Int) < m := by omega
          have h1 : k < l.length := by rw [Hm.out]; exact hlt
          obtain ⟨b, off, rfl, x0, x1⟩ := rds_at R1.out B.out (Nat.le_refl _) k h1
          have Hd : Hid (sgo l = sgo (l[k] :: l.drop (k + 1))) := by show _ = _; rw [Hg.out, ← List.drop_eq_getElem_cons h1]
          have hsz := Hs.out _ (List.getElem_mem h1)
          have HK := Lib.hid hlt
          clear Hg
          have Hl2 : Hid (sgo (l.drop (k + 1)) = sgo (l.drop (k + 1))) := Lib.hid rfl
          generalize hx : l[k] = x at *
          rw [sgo_cons] at Hd
          by_cases hq : IsQ x.1 x.2
          · rw [if_pos hq] at Hd
            obtain ⟨q, e1, e2, h4⟩ := hq
            have ex : x = qs q := Prod.ext e1 e2
            subst ex
            have Hc := Lib.hid (checkR wr q h4 (HL.out.below B.out))
            have Hsh := Lib.hid (fun W => lshort_any W q)
            unfold fr fv at Hc Hsh
            simp only [qs] at x0 x1
            by_cases hsq : shortQ q
            · rw [if_pos ((short_ex q).2 hsq)] at Hd
              rw [decide_eq_true hsq] at Hsh
              clear hsq e1 e2 h4 hsz hx
              go_wp2_with fail
              refine Calls.mono Hc.out ?_
              rintro e w2 ⟨rfl, hb⟩
              have B2 := Lib.hid (B.out.trans (hb.mono B.out.size))
              have x0' := (hb.cell (p := ⟨b, off + k * 2, none⟩) (block_lt_of_cell x0)).trans x0
              have x1' := (hb.cell (p := ⟨b, off + k * 2 + 1, none⟩) (block_lt_of_cell x1)).trans x1
              clear hb B x0 x1 Hc
              go_wp2_with fail
              refine Calls.mono (Hsh.out _) ?_
              rintro e w3 ⟨rfl, hb⟩
              have B3 := Lib.hid (B2.out.trans (hb.mono B2.out.size))
              clear hb B2 x0' x1' Hsh
              go_wp2_with fail
              go_roundw
              case rel => exact ⟨k + 1, HK.out, by go_num, by show _ = _; exact Hd.out, B3⟩
              case measure => simp [intOf]; omega
            · rw [if_neg (fun h => hsq ((short_ex q).1 h))] at Hd
              rw [decide_eq_false hsq] at Hsh
              clear hsq e1 e2 h4 hsz hx
              go_wp2_with fail
              refine Calls.mono Hc.out ?_
              rintro e w2 ⟨rfl, hb⟩
              have B2 := Lib.hid (B.out.trans (hb.mono B.out.size))
              have x0' := (hb.cell (p := ⟨b, off + k * 2, none⟩) (block_lt_of_cell x0)).trans x0
              have x1' := (hb.cell (p := ⟨b, off + k * 2 + 1, none⟩) (block_lt_of_cell x1)).trans x1
              clear hb B x0 x1 Hc
              go_wp2_with fail
              refine Calls.mono (Hsh.out _) ?_
              rintro e w3 ⟨rfl, hb⟩
              have B3 := Lib.hid (B2.out.trans (hb.mono B2.out.size))
              clear hb B2 x0' x1' Hsh
              go_wp2_with fail
              go_ret
              exact ⟨by rw [Hvv.out, Hd.out]; rfl, B3.out⟩
          · rw [if_neg hq] at Hd
            have Hc := Lib.hid (checkS_no wr x.1 x.2 (by omega) (by omega) hq (HL.out.below B.out))
            obtain ⟨s, t⟩ := x
            simp only at x0 x1 Hc
            clear hsz hq hx
            go_wp2_with fail
            refine Calls.mono Hc.out ?_
            rintro e w2 ⟨rfl, hb⟩
            have B2 := Lib.hid (B.out.trans (hb.mono B.out.size))
            clear hb B x0 x1 Hc
            go_wp2_with fail
            go_ret
            exact ⟨by rw [Hvv.out, Hd.out]; rfl, B2.out⟩
        · have hlt' : ¬ (k : Int) < m := by omega
          have Hz : Hid (sgo l = 0) := by show _ = _; rw [Hg.out, List.drop_of_length_le (by rw [Hm.out]; omega)]; rfl
          clear Hg
          go_wp2_with fail
          go_ret
          exact ⟨by rw [Hvv.out, Hz.out]; rfl, B.out⟩
    · have Hvv : Hid (v = 5) := by show _ = _; rw [Hv.out, if_pos rfl]; unfold scode; rw [if_neg hlen]
      have hne : ((l.length : Int) == ps.length) = false := by rw [beq_eq_false_iff_ne]; omega
      clear Hv hp hlen R1 Hs
      generalize l.length = m at *
      generalize ps.length = n at *
      go_enter Tryz.func50, Tryz.ntmps50
      go_wp2_with fail
      refine Calls.mono HP.out ?_
      rintro e w1 ⟨rfl, hb⟩
      have B1 := Lib.hid hb
      clear hb HP
      go_wp2_with fail
      go_ret
      exact ⟨by rw [Hvv.out]; rfl, B1.out⟩
  · have Hvv : Hid (v = pcode ps) := by show _ = _; rw [Hv.out, if_neg hp]
    have hp0 : (pcode ps == 0) = false := by rw [beq_eq_false_iff_ne]; exact hp
    clear Hv hp R1 Hs
    generalize pcode ps = p at *
    generalize l.length = m at *
    generalize ps.length = n at *
    go_enter Tryz.func50, Tryz.ntmps50
    go_wp2_with fail
    refine Calls.mono HP.out ?_
    rintro e w1 ⟨rfl, hb⟩
    have B1 := Lib.hid hb
    clear hb HP
    go_wp2_with fail
    go_ret
    exact ⟨by rw [Hvv.out]; rfl, B1.out⟩

end Go.Proofs.YtlomhfknmhaboaaGreatDoor

/- Sort, Scale, Combine where a size is wrong. -/
namespace Go.Proofs.YtlomhfknmhaboaaGreatDoor
open Go.RowKit

set_option maxRecDepth 100000 in
set_option maxHeartbeats 4000000 in
theorem Sort_err (w : World) (ps : List Int) (a0 a1 : Option Addr) (c0 c1 : Nat) (ls : List Pairs) (rp : Rd w a0 (ints ps)) (hi : I64s ps) (hl0 : ps.length ≤ 1000000) (rl : RdL w a1 ls) (hl : ls.length ≤ 1000000) (hl2 : ∀ l ∈ ls, l.length ≤ 1000000 ∧ Ssz l) (hc : lcode ps ls ≠ 0) (L : Laid w) :
    Gives Tryz.prog 47 #[.slice a0 ps.length c0, .slice a1 ls.length c1] w (.tuple #[.slice none 0 0, .int .i64 (lcode ps ls)]) := by
  unfold Gives
  have HA : Hid (∀ W, Below w.heap.size w W → Gives Tryz.prog 52 #[.slice a0 ps.length c0, .slice a1 ls.length c1] W (.int .i64 (lcode ps ls))) := fun W hW =>
    checkAll_any W a0 a1 c0 c1 ps ls (rp.below hW (Nat.le_refl _)) hi hl0 (rl.below hW (Nat.le_refl _)) hl hl2 (L.below hW)
  have hp0 : (lcode ps ls == 0) = false := by rw [beq_eq_false_iff_ne]; exact hc
  clear rp hi hl0 rl hl hl2 hc L
  generalize lcode ps ls = code at *
  generalize ps.length = n at *
  generalize ls.length = m at *
  have B0 := Lib.hid (((Below.refl w.heap.size w).alloc (Nat.le_refl _) (.cells #[.slice a0 n c0] 26)).alloc (by simp) (.cells #[.slice a1 m c1] 33))
  go_enter Tryz.func47, Tryz.ntmps47
  go_wp2_with fail
  refine Calls.mono (HA.out _ B0.out) ?_
  rintro e w1 ⟨rfl, hb⟩
  have B1 := Lib.hid (B0.out.trans (hb.mono B0.out.size))
  clear hb HA B0
  go_wp2_with fail
  go_ret2
  exact ⟨rfl, B1.out⟩

theorem lcode_single (ps : List Int) (l : Pairs) : lcode ps [l] = ccode ps l := by
  unfold lcode ccode
  by_cases hp : pcode ps = 0
  · rw [if_pos hp, if_pos hp, lgo, lgo]
    by_cases h : scode ps.length l = 0
    · rw [if_pos h, h]
    · rw [if_neg h]
  · rw [if_neg hp, if_neg hp]

theorem lcode_pair (ps : List Int) (l1 l2 : Pairs) : lcode ps [l1, l2] = if ccode ps l1 = 0 then ccode ps l2 else ccode ps l1 := by
  unfold lcode ccode
  by_cases hp : pcode ps = 0
  · rw [if_pos hp, if_pos hp, if_pos hp, lgo, lgo, lgo]
    by_cases h : scode ps.length l1 = 0
    · rw [if_pos h, if_pos h]
      by_cases h2 : scode ps.length l2 = 0
      · rw [if_pos h2, h2]
      · rw [if_neg h2]
    · rw [if_neg h, if_neg h]
  · rw [if_neg hp, if_neg hp, if_neg hp]

set_option maxRecDepth 100000 in
set_option maxHeartbeats 8000000 in
theorem Scale_err (w : World) (ps : List Int) (a0 a1 a2 : Option Addr) (c0 c1 : Nat) (l1 l2 : Pairs) (s t : ByteArray) (H : TwoS w ps a0 a1 a2 l1 l2) (hc : ccode ps l1 ≠ 0) :
    Gives Tryz.prog 23 #[.slice a0 ps.length c0, .slice a1 l1.length c1, .agg #[.string s, .string t]] w (.tuple #[.slice none 0 0, .int .i64 (ccode ps l1)]) := by
  have Hc : Hid (∀ W g1 g2, Below w.heap.size w W → W.heap[g1]? = some (.cells #[.slice a1 l1.length c1] 34 (0, 0)) → Gives Tryz.prog 16 #[.slice a0 ps.length c0, .slice (some ⟨g1, 0, none⟩) 1 1, .slice (some ⟨g2, 0, none⟩) 1 1] W (.tuple #[.slice none 0 0, .int .i64 (ccode ps l1)])) := fun W g1 g2 hW hg => by
    have := combine_err W a0 (some ⟨g1, 0, none⟩) (some ⟨g2, 0, none⟩) c0 1 1 1 ps [l1] (H.rp.below hW (Nat.le_refl _)) H.hi (Nat.le_trans H.hl (by decide)) (rdl_one hg (H.r1.below hW (Nat.le_refl _))) (by simp)
      (by intro l hl; simp only [List.mem_cons, List.not_mem_nil, or_false] at hl; subst hl; exact ⟨Nat.le_trans H.n1 (by decide), H.s1⟩) (by rw [lcode_single]; exact hc) (H.L.below hW)
    rw [lcode_single] at this
    exact this
  unfold Gives
  clear H hc
  generalize ccode ps l1 = code at *
  generalize ps.length = n at *
  generalize l1.length = na at *
  have B0 := Lib.hid ((Below.refl w.heap.size w).alloc (Nat.le_refl _) (.cells #[.string s, .string t] 30))
  have N0 := Lib.hid (heap_at w #[.string s, .string t] 30 _ rfl)
  go_enter Tryz.func23, Tryz.ntmps23
  obtain ⟨k0, k1, -, -⟩ := two_cells N0.out
  go_wp2_with fail
  have B1 := Lib.hid (B0.out.alloc B0.out.size (.cells #[.slice a1 na c1] 34))
  have B2 := Lib.hid (B1.out.alloc B1.out.size (.cells #[.string s, .string t] 30))
  have z1 : (w.alloc (.cells #[.string s, .string t] 30)).heap.size = w.heap.size + 1 := by show (w.heap.push _).size = _; exact Array.size_push ..
  refine Calls.mono (Hc.out _ _ _ B2.out (heap_old (heap_at _ _ _ _ z1) _)) ?_
  rintro e w5 ⟨rfl, hb⟩
  have B3 := Lib.hid (B2.out.trans (hb.mono B2.out.size))
  clear hb z1 Hc
  go_wp2_with fail
  go_ret2
  exact ⟨rfl, B3.out⟩

end Go.Proofs.YtlomhfknmhaboaaGreatDoor

/- The law SizeChecks: what its function returns. -/
namespace Go.Proofs.YtlomhfknmhaboaaGreatDoor
open Go.RowKit

theorem TwoS.below {w W : World} {ps : List Int} {a0 a1 a2 : Option Addr} {l1 l2 : Pairs} (H : TwoS w ps a0 a1 a2 l1 l2) (hW : Below w.heap.size w W) : TwoS W ps a0 a1 a2 l1 l2 :=
  ⟨H.rp.below hW (Nat.le_refl _), H.hi, H.hl, H.r1.below hW (Nat.le_refl _), H.r2.below hW (Nat.le_refl _), H.n1, H.n2, H.s1, H.s2, H.L.below hW⟩

set_option maxRecDepth 100000 in
set_option maxHeartbeats 8000000 in
theorem lawChk_many (w : World) (a0 a1 a2 : Option Addr) (c0 c1 c2 n : Nat) (l1 l2 : Pairs) (r1 : Rd w a1 (cellsS l1)) (r2 : Rd w a2 (cellsS l2)) (hf : fewB n l1 = false ∨ fewB n l2 = false) (L : Laid w) :
    Gives Tryz.prog 11 #[.slice a0 n c0, .slice a1 l1.length c1, .slice a2 l2.length c2] w (.bool true) := by
  unfold Gives
  have HK : Hid (∀ W, Below w.heap.size w W → Gives Tryz.prog 12 #[] W (.bool true)) := fun W hW => known_ok W (L.below hW)
  have HF1 : Hid (∀ W, Below w.heap.size w W → Gives Tryz.prog 49 #[.slice a0 n c0, .slice a1 l1.length c1] W (.bool (fewB n l1))) := fun W hW => few_any W a0 a1 c0 c1 n l1 (r1.below hW (Nat.le_refl _))
  have HF2 : Hid (∀ W, Below w.heap.size w W → Gives Tryz.prog 49 #[.slice a0 n c0, .slice a2 l2.length c2] W (.bool (fewB n l2))) := fun W hW => few_any W a0 a2 c0 c2 n l2 (r2.below hW (Nat.le_refl _))
  clear r1 r2 L
  have B0 := Lib.hid (Below.refl w.heap.size w)
  generalize l1.length = m1 at *
  generalize l2.length = m2 at *
  by_cases h1 : fewB n l1 = false
  · rw [h1] at HF1
    clear h1 hf HF2
    go_enter Tryz.func11, Tryz.ntmps11
    go_wp2_with fail
    refine Calls.mono (HK.out _ B0.out) ?_
    rintro e_ w1 ⟨rfl, hb_⟩
    have B_1 := Lib.hid (B0.out.trans (hb_.mono B0.out.size))
    clear hb_ B0
    go_wp2_with fail
    refine Calls.mono (HF1.out _ B_1.out) ?_
    rintro e_ w2 ⟨rfl, hb_⟩
    have B_2 := Lib.hid (B_1.out.trans (hb_.mono B_1.out.size))
    clear hb_ B_1
    go_wp2_with fail
    refine Calls.mono (HK.out _ B_2.out) ?_
    rintro e_ w3 ⟨rfl, hb_⟩
    have B_3 := Lib.hid (B_2.out.trans (hb_.mono B_2.out.size))
    clear hb_ B_2
    go_wp2_with fail
    go_ret
    exact ⟨rfl, B_3.out⟩
  · have h1t : fewB n l1 = true := by simpa using h1
    have h2 : fewB n l2 = false := hf.resolve_left h1
    rw [h1t] at HF1
    rw [h2] at HF2
    clear h1 h1t h2 hf
    go_enter Tryz.func11, Tryz.ntmps11
    go_wp2_with fail
    refine Calls.mono (HK.out _ B0.out) ?_
    rintro e_ w4 ⟨rfl, hb_⟩
    have B_4 := Lib.hid (B0.out.trans (hb_.mono B0.out.size))
    clear hb_ B0
    go_wp2_with fail
    refine Calls.mono (HF1.out _ B_4.out) ?_
    rintro e_ w5 ⟨rfl, hb_⟩
    have B_5 := Lib.hid (B_4.out.trans (hb_.mono B_4.out.size))
    clear hb_ B_4
    go_wp2_with fail
    refine Calls.mono (HF2.out _ B_5.out) ?_
    rintro e_ w6 ⟨rfl, hb_⟩
    have B_6 := Lib.hid (B_5.out.trans (hb_.mono B_5.out.size))
    clear hb_ B_5
    go_wp2_with fail
    refine Calls.mono (HK.out _ B_6.out) ?_
    rintro e_ w7 ⟨rfl, hb_⟩
    have B_7 := Lib.hid (B_6.out.trans (hb_.mono B_6.out.size))
    clear hb_ B_6
    go_wp2_with fail
    go_ret
    exact ⟨rfl, B_7.out⟩
set_option maxRecDepth 100000 in
set_option maxHeartbeats 16000000 in
theorem lawChk_right (w : World) (ps : List Int) (a0 a1 a2 : Option Addr) (c0 c1 c2 : Nat) (l1 l2 : Pairs) (H : TwoS w ps a0 a1 a2 l1 l2) (f1 : fewB ps.length l1 = true) (f2 : fewB ps.length l2 = true) (e1 : ccode ps l1 = 0) (e2 : ccode ps l2 = 0) :
    Gives Tryz.prog 11 #[.slice a0 ps.length c0, .slice a1 l1.length c1, .slice a2 l2.length c2] w (.bool true) := by
  unfold Gives
  have HK : Hid (∀ W, Below w.heap.size w W → Gives Tryz.prog 12 #[] W (.bool true)) := fun W hW => known_ok W (H.L.below hW)
  have HF1 : Hid (∀ W, Below w.heap.size w W → Gives Tryz.prog 49 #[.slice a0 ps.length c0, .slice a1 l1.length c1] W (.bool true)) := fun W hW => by have := few_any W a0 a1 c0 c1 ps.length l1 (H.below hW).r1; rw [f1] at this; exact this
  have HF2 : Hid (∀ W, Below w.heap.size w W → Gives Tryz.prog 49 #[.slice a0 ps.length c0, .slice a2 l2.length c2] W (.bool true)) := fun W hW => by have := few_any W a0 a2 c0 c2 ps.length l2 (H.below hW).r2; rw [f2] at this; exact this
  have HC1 : Hid (∀ W, Below w.heap.size w W → Gives Tryz.prog 50 #[.slice a0 ps.length c0, .slice a1 l1.length c1] W (.int .i64 (ccode ps l1))) := fun W hW => lcheck_any W a0 a1 c0 c1 ps l1 (H.below hW).rp H.hi H.hl (H.below hW).r1 H.n1 H.s1 (H.below hW).L
  have HC2 : Hid (∀ W, Below w.heap.size w W → Gives Tryz.prog 50 #[.slice a0 ps.length c0, .slice a2 l2.length c2] W (.int .i64 (ccode ps l2))) := fun W hW => lcheck_any W a0 a2 c0 c2 ps l2 (H.below hW).rp H.hi H.hl (H.below hW).r2 H.n2 H.s2 (H.below hW).L
  have HSC : Hid (∀ W, Below w.heap.size w W → Gives Tryz.prog 51 #[.slice a0 ps.length c0, .slice a1 l1.length c1] W (.int .i64 (ccode ps l1))) := fun W hW => sizeCheck_any W a0 a1 c0 c1 ps l1 (H.below hW).rp H.hi (Nat.le_trans H.hl (by decide)) (H.below hW).r1 (Nat.le_trans H.n1 (by decide)) H.s1 (H.below hW).L
  have HCA : Hid (∀ W g, Below w.heap.size w W → W.heap[g]? = some (.cells #[.slice a1 l1.length c1, .slice a2 l2.length c2] 34 (0, 0)) → Gives Tryz.prog 52 #[.slice a0 ps.length c0, .slice (some ⟨g, 0, none⟩) 2 2] W (.int .i64 (lcode ps [l1, l2]))) := fun W g hW hg => H.all hW hg
  have HE1 : Hid (∀ W, Below w.heap.size w W → Gives Tryz.prog 53 #[.slice a1 l1.length c1, .slice a2 l2.length c2] W (.bool (decide (l1 = l2)))) := fun W hW => sizeEqual_any W a1 a2 c1 c2 l1 l2 (H.below hW).r1 (H.below hW).r2 (Nat.le_trans H.n1 (by decide))
  have HE2 : Hid (∀ W, Below w.heap.size w W → Gives Tryz.prog 20 #[.slice a1 l1.length c1, .slice a2 l2.length c2] W (.bool (decide (l1 = l2)))) := fun W hW => equalS_any W a1 a2 c1 c2 l1 l2 (H.below hW).r1 (H.below hW).r2 (Nat.le_trans H.n1 (by decide))
  have HE3 : Hid (∀ W, Below w.heap.size w W → Gives Tryz.prog 53 #[.slice a1 l1.length c1, .slice a1 l1.length c1] W (.bool true)) := fun W hW => by have := sizeEqual_any W a1 a1 c1 c1 l1 l1 (H.below hW).r1 (H.below hW).r1 (Nat.le_trans H.n1 (by decide)); rw [decide_eq_true rfl] at this; exact this
  generalize hz : decide (l1 = l2) = z at *
  clear hz
  have e3 : lcode ps [l1, l2] = 0 := by rw [lcode_pair, if_pos e1, e2]
  rw [e1] at HC1 HSC
  rw [e2] at HC2
  rw [e3] at HCA
  clear H f1 f2 e1 e2 e3
  generalize ps.length = n at *
  generalize l1.length = m1 at *
  generalize l2.length = m2 at *
  have B0 := Lib.hid (Below.refl w.heap.size w)
  go_enter Tryz.func11, Tryz.ntmps11
  go_wp2_with fail
  refine Calls.mono (HK.out _ B0.out) ?_
  rintro e_ w8 ⟨rfl, hb_⟩
  have B_8 := Lib.hid (B0.out.trans (hb_.mono B0.out.size))
  clear hb_ B0
  go_wp2_with fail
  refine Calls.mono (HF1.out _ B_8.out) ?_
  rintro e_ w9 ⟨rfl, hb_⟩
  have B_9 := Lib.hid (B_8.out.trans (hb_.mono B_8.out.size))
  clear hb_ B_8
  go_wp2_with fail
  refine Calls.mono (HF2.out _ B_9.out) ?_
  rintro e_ w10 ⟨rfl, hb_⟩
  have B_10 := Lib.hid (B_9.out.trans (hb_.mono B_9.out.size))
  clear hb_ B_9
  go_wp2_with fail
  refine Calls.mono (HC1.out _ B_10.out) ?_
  rintro e_ w11 ⟨rfl, hb_⟩
  have B_11 := Lib.hid (B_10.out.trans (hb_.mono B_10.out.size))
  clear hb_ B_10
  go_wp2_with fail
  refine Calls.mono (HC2.out _ B_11.out) ?_
  rintro e_ w12 ⟨rfl, hb_⟩
  have B_12 := Lib.hid (B_11.out.trans (hb_.mono B_11.out.size))
  clear hb_ B_11
  go_wp2_with fail
  refine Calls.mono (HSC.out _ B_12.out) ?_
  rintro e_ w13 ⟨rfl, hb_⟩
  have B_13 := Lib.hid (B_12.out.trans (hb_.mono B_12.out.size))
  clear hb_ B_12
  go_wp2_with fail
  have Bx_ := Lib.hid (B_13.out.alloc B_13.out.size (.cells #[.slice a1 m1 c1, .slice a2 m2 c2] 34))
  refine Calls.mono (HCA.out _ _ Bx_.out (heap_at w13 _ _ _ rfl)) ?_
  rintro e_ w14 ⟨rfl, hb_⟩
  have B_14 := Lib.hid (Bx_.out.trans (hb_.mono Bx_.out.size))
  clear hb_ Bx_ B_13
  cases z
  · skip
    go_wp2_with fail
    refine Calls.mono (HE1.out _ B_14.out) ?_
    rintro e_ w15 ⟨rfl, hb_⟩
    have B_15 := Lib.hid (B_14.out.trans (hb_.mono B_14.out.size))
    clear hb_ B_14
    go_wp2_with fail
    refine Calls.mono (HE2.out _ B_15.out) ?_
    rintro e_ w16 ⟨rfl, hb_⟩
    have B_16 := Lib.hid (B_15.out.trans (hb_.mono B_15.out.size))
    clear hb_ B_15
    go_wp2_with fail
    refine Calls.mono (HE3.out _ B_16.out) ?_
    rintro e_ w17 ⟨rfl, hb_⟩
    have B_17 := Lib.hid (B_16.out.trans (hb_.mono B_16.out.size))
    clear hb_ B_16
    go_wp2_with fail
    go_ret
    exact ⟨rfl, B_17.out⟩
  · skip
    go_wp2_with fail
    refine Calls.mono (HE1.out _ B_14.out) ?_
    rintro e_ w18 ⟨rfl, hb_⟩
    have B_18 := Lib.hid (B_14.out.trans (hb_.mono B_14.out.size))
    clear hb_ B_14
    go_wp2_with fail
    refine Calls.mono (HE2.out _ B_18.out) ?_
    rintro e_ w19 ⟨rfl, hb_⟩
    have B_19 := Lib.hid (B_18.out.trans (hb_.mono B_18.out.size))
    clear hb_ B_18
    go_wp2_with fail
    refine Calls.mono (HE3.out _ B_19.out) ?_
    rintro e_ w20 ⟨rfl, hb_⟩
    have B_20 := Lib.hid (B_19.out.trans (hb_.mono B_19.out.size))
    clear hb_ B_19
    go_wp2_with fail
    go_ret
    exact ⟨rfl, B_20.out⟩
set_option maxRecDepth 100000 in
set_option maxHeartbeats 32000000 in
theorem lawChk_second (w : World) (ps : List Int) (a0 a1 a2 : Option Addr) (c0 c1 c2 : Nat) (l1 l2 : Pairs) (H : TwoS w ps a0 a1 a2 l1 l2) (f1 : fewB ps.length l1 = true) (f2 : fewB ps.length l2 = true) (e1 : ccode ps l1 = 0) (e2 : ccode ps l2 ≠ 0) :
    Gives Tryz.prog 11 #[.slice a0 ps.length c0, .slice a1 l1.length c1, .slice a2 l2.length c2] w (.bool true) := by
  unfold Gives
  have HK : Hid (∀ W, Below w.heap.size w W → Gives Tryz.prog 12 #[] W (.bool true)) := fun W hW => known_ok W (H.L.below hW)
  have HF1 : Hid (∀ W, Below w.heap.size w W → Gives Tryz.prog 49 #[.slice a0 ps.length c0, .slice a1 l1.length c1] W (.bool true)) := fun W hW => by have := few_any W a0 a1 c0 c1 ps.length l1 (H.below hW).r1; rw [f1] at this; exact this
  have HF2 : Hid (∀ W, Below w.heap.size w W → Gives Tryz.prog 49 #[.slice a0 ps.length c0, .slice a2 l2.length c2] W (.bool true)) := fun W hW => by have := few_any W a0 a2 c0 c2 ps.length l2 (H.below hW).r2; rw [f2] at this; exact this
  have HC1 : Hid (∀ W, Below w.heap.size w W → Gives Tryz.prog 50 #[.slice a0 ps.length c0, .slice a1 l1.length c1] W (.int .i64 (ccode ps l1))) := fun W hW => lcheck_any W a0 a1 c0 c1 ps l1 (H.below hW).rp H.hi H.hl (H.below hW).r1 H.n1 H.s1 (H.below hW).L
  have HC2 : Hid (∀ W, Below w.heap.size w W → Gives Tryz.prog 50 #[.slice a0 ps.length c0, .slice a2 l2.length c2] W (.int .i64 (ccode ps l2))) := fun W hW => lcheck_any W a0 a2 c0 c2 ps l2 (H.below hW).rp H.hi H.hl (H.below hW).r2 H.n2 H.s2 (H.below hW).L
  have HSC : Hid (∀ W, Below w.heap.size w W → Gives Tryz.prog 51 #[.slice a0 ps.length c0, .slice a1 l1.length c1] W (.int .i64 (ccode ps l1))) := fun W hW => sizeCheck_any W a0 a1 c0 c1 ps l1 (H.below hW).rp H.hi (Nat.le_trans H.hl (by decide)) (H.below hW).r1 (Nat.le_trans H.n1 (by decide)) H.s1 (H.below hW).L
  have HCA : Hid (∀ W g, Below w.heap.size w W → W.heap[g]? = some (.cells #[.slice a1 l1.length c1, .slice a2 l2.length c2] 34 (0, 0)) → Gives Tryz.prog 52 #[.slice a0 ps.length c0, .slice (some ⟨g, 0, none⟩) 2 2] W (.int .i64 (lcode ps [l1, l2]))) := fun W g hW hg => H.all hW hg
  have HE1 : Hid (∀ W, Below w.heap.size w W → Gives Tryz.prog 53 #[.slice a1 l1.length c1, .slice a2 l2.length c2] W (.bool (decide (l1 = l2)))) := fun W hW => sizeEqual_any W a1 a2 c1 c2 l1 l2 (H.below hW).r1 (H.below hW).r2 (Nat.le_trans H.n1 (by decide))
  have HE2 : Hid (∀ W, Below w.heap.size w W → Gives Tryz.prog 20 #[.slice a1 l1.length c1, .slice a2 l2.length c2] W (.bool (decide (l1 = l2)))) := fun W hW => equalS_any W a1 a2 c1 c2 l1 l2 (H.below hW).r1 (H.below hW).r2 (Nat.le_trans H.n1 (by decide))
  have HE3 : Hid (∀ W, Below w.heap.size w W → Gives Tryz.prog 53 #[.slice a1 l1.length c1, .slice a1 l1.length c1] W (.bool true)) := fun W hW => by have := sizeEqual_any W a1 a1 c1 c1 l1 l1 (H.below hW).r1 (H.below hW).r1 (Nat.le_trans H.n1 (by decide)); rw [decide_eq_true rfl] at this; exact this
  generalize hz : decide (l1 = l2) = z at *
  clear hz
  have hcl : lcode ps [l1, l2] ≠ 0 := by rw [lcode_pair]; split <;> omega
  have HAdd : Hid (∀ W, Below w.heap.size w W → Gives Tryz.prog 22 #[.slice a0 ps.length c0, .slice a1 l1.length c1, .slice a2 l2.length c2] W (.tuple #[.slice none 0 0, .int .i64 (lcode ps [l1, l2])])) := fun W hW => Add_err W ps a0 a1 a2 c0 c1 c2 l1 l2 (H.below hW) hcl
  have HSub : Hid (∀ W, Below w.heap.size w W → Gives Tryz.prog 26 #[.slice a0 ps.length c0, .slice a1 l1.length c1, .slice a2 l2.length c2] W (.tuple #[.slice none 0 0, .int .i64 (lcode ps [l1, l2])])) := fun W hW => Sub_err W ps a0 a1 a2 c0 c1 c2 l1 l2 (H.below hW) hcl
  have HCmp : Hid (∀ W, Below w.heap.size w W → Gives Tryz.prog 21 #[.slice a0 ps.length c0, .slice a1 l1.length c1, .slice a2 l2.length c2] W (.tuple #[.int .i64 0, .int .i64 (lcode ps [l1, l2])])) := fun W hW => Compare_err W ps a0 a1 a2 c0 c1 c2 l1 l2 (H.below hW) hcl
  have HFlo : Hid (∀ W, Below w.heap.size w W → Gives Tryz.prog 30 #[.slice a0 ps.length c0, .slice a1 l1.length c1, .slice a2 l2.length c2] W (.tuple #[.string ⟨#[]⟩, .int .i64 (lcode ps [l1, l2])])) := fun W hW => Floor_err W ps a0 a1 a2 c0 c1 c2 l1 l2 (H.below hW) hcl
  have HRou : Hid (∀ W, Below w.heap.size w W → Gives Tryz.prog 31 #[.slice a0 ps.length c0, .slice a1 l1.length c1, .slice a2 l2.length c2] W (.tuple #[.string ⟨#[]⟩, .int .i64 (lcode ps [l1, l2])])) := fun W hW => Round_err W ps a0 a1 a2 c0 c1 c2 l1 l2 (H.below hW) hcl
  have HRem : Hid (∀ W, Below w.heap.size w W → Gives Tryz.prog 32 #[.slice a0 ps.length c0, .slice a1 l1.length c1, .slice a2 l2.length c2] W (.tuple #[.slice none 0 0, .int .i64 (lcode ps [l1, l2])])) := fun W hW => Remainder_err W ps a0 a1 a2 c0 c1 c2 l1 l2 (H.below hW) hcl
  have hall : ∀ l ∈ [l1, l2], l.length ≤ 1000000 ∧ Ssz l := by intro l hl; simp only [List.mem_cons, List.not_mem_nil, or_false] at hl; rcases hl with rfl | rfl; exact ⟨Nat.le_trans H.n1 (by decide), H.s1⟩; exact ⟨Nat.le_trans H.n2 (by decide), H.s2⟩
  have HSor : Hid (∀ W g, Below w.heap.size w W → W.heap[g]? = some (.cells #[.slice a1 l1.length c1, .slice a2 l2.length c2] 34 (0, 0)) → Gives Tryz.prog 47 #[.slice a0 ps.length c0, .slice (some ⟨g, 0, none⟩) 2 2] W (.tuple #[.slice none 0 0, .int .i64 (lcode ps [l1, l2])])) := fun W g hW hg =>
    Sort_err W ps a0 _ c0 2 [l1, l2] (H.below hW).rp H.hi (Nat.le_trans H.hl (by decide)) (rdl_two hg (H.below hW).r1 (H.below hW).r2) (by simp) hall hcl (H.below hW).L
  have HCom : Hid (∀ W g, Below w.heap.size w W → W.heap[g]? = some (.cells #[.slice a1 l1.length c1, .slice a2 l2.length c2] 34 (0, 0)) → Gives Tryz.prog 16 #[.slice a0 ps.length c0, .slice (some ⟨g, 0, none⟩) 2 2, .slice none 0 0] W (.tuple #[.slice none 0 0, .int .i64 (lcode ps [l1, l2])])) := fun W g hW hg =>
    combine_err W a0 _ none c0 2 0 0 ps [l1, l2] (H.below hW).rp H.hi (Nat.le_trans H.hl (by decide)) (rdl_two hg (H.below hW).r1 (H.below hW).r2) (by simp) hall hcl (H.below hW).L
  have e3 : ccode ps l2 = lcode ps [l1, l2] := by rw [lcode_pair, if_pos e1]
  rw [e1] at HC1 HSC
  rw [e3] at HC2
  have hp0 : (lcode ps [l1, l2] == 0) = false := by rw [beq_eq_false_iff_ne]; exact hcl
  clear H f1 f2 e1 e2 e3 hcl hall
  generalize lcode ps [l1, l2] = code at *
  generalize ps.length = n at *
  generalize l1.length = m1 at *
  generalize l2.length = m2 at *
  have B0 := Lib.hid (Below.refl w.heap.size w)
  go_enter Tryz.func11, Tryz.ntmps11
  go_wp2_with fail
  refine Calls.mono (HK.out _ B0.out) ?_
  rintro e_ w21 ⟨rfl, hb_⟩
  have B_21 := Lib.hid (B0.out.trans (hb_.mono B0.out.size))
  clear hb_ B0
  go_wp2_with fail
  refine Calls.mono (HF1.out _ B_21.out) ?_
  rintro e_ w22 ⟨rfl, hb_⟩
  have B_22 := Lib.hid (B_21.out.trans (hb_.mono B_21.out.size))
  clear hb_ B_21
  go_wp2_with fail
  refine Calls.mono (HF2.out _ B_22.out) ?_
  rintro e_ w23 ⟨rfl, hb_⟩
  have B_23 := Lib.hid (B_22.out.trans (hb_.mono B_22.out.size))
  clear hb_ B_22
  go_wp2_with fail
  refine Calls.mono (HC1.out _ B_23.out) ?_
  rintro e_ w24 ⟨rfl, hb_⟩
  have B_24 := Lib.hid (B_23.out.trans (hb_.mono B_23.out.size))
  clear hb_ B_23
  go_wp2_with fail
  refine Calls.mono (HC2.out _ B_24.out) ?_
  rintro e_ w25 ⟨rfl, hb_⟩
  have B_25 := Lib.hid (B_24.out.trans (hb_.mono B_24.out.size))
  clear hb_ B_24
  go_wp2_with fail
  refine Calls.mono (HSC.out _ B_25.out) ?_
  rintro e_ w26 ⟨rfl, hb_⟩
  have B_26 := Lib.hid (B_25.out.trans (hb_.mono B_25.out.size))
  clear hb_ B_25
  go_wp2_with fail
  have Bx_ := Lib.hid (B_26.out.alloc B_26.out.size (.cells #[.slice a1 m1 c1, .slice a2 m2 c2] 34))
  refine Calls.mono (HCA.out _ _ Bx_.out (heap_at w26 _ _ _ rfl)) ?_
  rintro e_ w27 ⟨rfl, hb_⟩
  have B_27 := Lib.hid (Bx_.out.trans (hb_.mono Bx_.out.size))
  clear hb_ Bx_ B_26
  cases z
  · skip
    go_wp2_with fail
    refine Calls.mono (HE1.out _ B_27.out) ?_
    rintro e_ w28 ⟨rfl, hb_⟩
    have B_28 := Lib.hid (B_27.out.trans (hb_.mono B_27.out.size))
    clear hb_ B_27
    go_wp2_with fail
    refine Calls.mono (HE2.out _ B_28.out) ?_
    rintro e_ w29 ⟨rfl, hb_⟩
    have B_29 := Lib.hid (B_28.out.trans (hb_.mono B_28.out.size))
    clear hb_ B_28
    go_wp2_with fail
    refine Calls.mono (HE3.out _ B_29.out) ?_
    rintro e_ w30 ⟨rfl, hb_⟩
    have B_30 := Lib.hid (B_29.out.trans (hb_.mono B_29.out.size))
    clear hb_ B_29
    go_wp2_with fail
    refine Calls.mono (HAdd.out _ B_30.out) ?_
    rintro e_ w31 ⟨rfl, hb_⟩
    have B_31 := Lib.hid (B_30.out.trans (hb_.mono B_30.out.size))
    clear hb_ B_30
    go_wp2_with fail
    refine Calls.mono (HSub.out _ B_31.out) ?_
    rintro e_ w32 ⟨rfl, hb_⟩
    have B_32 := Lib.hid (B_31.out.trans (hb_.mono B_31.out.size))
    clear hb_ B_31
    go_wp2_with fail
    refine Calls.mono (HCmp.out _ B_32.out) ?_
    rintro e_ w33 ⟨rfl, hb_⟩
    have B_33 := Lib.hid (B_32.out.trans (hb_.mono B_32.out.size))
    clear hb_ B_32
    go_wp2_with fail
    refine Calls.mono (HFlo.out _ B_33.out) ?_
    rintro e_ w34 ⟨rfl, hb_⟩
    have B_34 := Lib.hid (B_33.out.trans (hb_.mono B_33.out.size))
    clear hb_ B_33
    go_wp2_with fail
    refine Calls.mono (HRou.out _ B_34.out) ?_
    rintro e_ w35 ⟨rfl, hb_⟩
    have B_35 := Lib.hid (B_34.out.trans (hb_.mono B_34.out.size))
    clear hb_ B_34
    go_wp2_with fail
    refine Calls.mono (HRem.out _ B_35.out) ?_
    rintro e_ w36 ⟨rfl, hb_⟩
    have B_36 := Lib.hid (B_35.out.trans (hb_.mono B_35.out.size))
    clear hb_ B_35
    go_wp2_with fail
    have Bx_ := Lib.hid (B_36.out.alloc B_36.out.size (.cells #[.slice a1 m1 c1, .slice a2 m2 c2] 34))
    refine Calls.mono (HSor.out _ _ Bx_.out (heap_at w36 _ _ _ rfl)) ?_
    rintro e_ w37 ⟨rfl, hb_⟩
    have B_37 := Lib.hid (Bx_.out.trans (hb_.mono Bx_.out.size))
    clear hb_ Bx_ B_36
    go_wp2_with fail
    have Bx_ := Lib.hid (B_37.out.alloc B_37.out.size (.cells #[.slice a1 m1 c1, .slice a2 m2 c2] 34))
    refine Calls.mono (HCom.out _ _ Bx_.out (heap_at w37 _ _ _ rfl)) ?_
    rintro e_ w38 ⟨rfl, hb_⟩
    have B_38 := Lib.hid (Bx_.out.trans (hb_.mono Bx_.out.size))
    clear hb_ Bx_ B_37
    go_wp2_with fail
    go_ret
    exact ⟨rfl, B_38.out⟩
  · skip
    go_wp2_with fail
    refine Calls.mono (HE1.out _ B_27.out) ?_
    rintro e_ w39 ⟨rfl, hb_⟩
    have B_39 := Lib.hid (B_27.out.trans (hb_.mono B_27.out.size))
    clear hb_ B_27
    go_wp2_with fail
    refine Calls.mono (HE2.out _ B_39.out) ?_
    rintro e_ w40 ⟨rfl, hb_⟩
    have B_40 := Lib.hid (B_39.out.trans (hb_.mono B_39.out.size))
    clear hb_ B_39
    go_wp2_with fail
    refine Calls.mono (HE3.out _ B_40.out) ?_
    rintro e_ w41 ⟨rfl, hb_⟩
    have B_41 := Lib.hid (B_40.out.trans (hb_.mono B_40.out.size))
    clear hb_ B_40
    go_wp2_with fail
    refine Calls.mono (HAdd.out _ B_41.out) ?_
    rintro e_ w42 ⟨rfl, hb_⟩
    have B_42 := Lib.hid (B_41.out.trans (hb_.mono B_41.out.size))
    clear hb_ B_41
    go_wp2_with fail
    refine Calls.mono (HSub.out _ B_42.out) ?_
    rintro e_ w43 ⟨rfl, hb_⟩
    have B_43 := Lib.hid (B_42.out.trans (hb_.mono B_42.out.size))
    clear hb_ B_42
    go_wp2_with fail
    refine Calls.mono (HCmp.out _ B_43.out) ?_
    rintro e_ w44 ⟨rfl, hb_⟩
    have B_44 := Lib.hid (B_43.out.trans (hb_.mono B_43.out.size))
    clear hb_ B_43
    go_wp2_with fail
    refine Calls.mono (HFlo.out _ B_44.out) ?_
    rintro e_ w45 ⟨rfl, hb_⟩
    have B_45 := Lib.hid (B_44.out.trans (hb_.mono B_44.out.size))
    clear hb_ B_44
    go_wp2_with fail
    refine Calls.mono (HRou.out _ B_45.out) ?_
    rintro e_ w46 ⟨rfl, hb_⟩
    have B_46 := Lib.hid (B_45.out.trans (hb_.mono B_45.out.size))
    clear hb_ B_45
    go_wp2_with fail
    refine Calls.mono (HRem.out _ B_46.out) ?_
    rintro e_ w47 ⟨rfl, hb_⟩
    have B_47 := Lib.hid (B_46.out.trans (hb_.mono B_46.out.size))
    clear hb_ B_46
    go_wp2_with fail
    have Bx_ := Lib.hid (B_47.out.alloc B_47.out.size (.cells #[.slice a1 m1 c1, .slice a2 m2 c2] 34))
    refine Calls.mono (HSor.out _ _ Bx_.out (heap_at w47 _ _ _ rfl)) ?_
    rintro e_ w48 ⟨rfl, hb_⟩
    have B_48 := Lib.hid (Bx_.out.trans (hb_.mono Bx_.out.size))
    clear hb_ Bx_ B_47
    go_wp2_with fail
    have Bx_ := Lib.hid (B_48.out.alloc B_48.out.size (.cells #[.slice a1 m1 c1, .slice a2 m2 c2] 34))
    refine Calls.mono (HCom.out _ _ Bx_.out (heap_at w48 _ _ _ rfl)) ?_
    rintro e_ w49 ⟨rfl, hb_⟩
    have B_49 := Lib.hid (Bx_.out.trans (hb_.mono Bx_.out.size))
    clear hb_ Bx_ B_48
    go_wp2_with fail
    go_ret
    exact ⟨rfl, B_49.out⟩
set_option maxRecDepth 100000 in
set_option maxHeartbeats 32000000 in
theorem lawChk_first (w : World) (ps : List Int) (a0 a1 a2 : Option Addr) (c0 c1 c2 : Nat) (l1 l2 : Pairs) (H : TwoS w ps a0 a1 a2 l1 l2) (f1 : fewB ps.length l1 = true) (f2 : fewB ps.length l2 = true) (e1 : ccode ps l1 ≠ 0) :
    Gives Tryz.prog 11 #[.slice a0 ps.length c0, .slice a1 l1.length c1, .slice a2 l2.length c2] w (.bool true) := by
  unfold Gives
  have HK : Hid (∀ W, Below w.heap.size w W → Gives Tryz.prog 12 #[] W (.bool true)) := fun W hW => known_ok W (H.L.below hW)
  have HF1 : Hid (∀ W, Below w.heap.size w W → Gives Tryz.prog 49 #[.slice a0 ps.length c0, .slice a1 l1.length c1] W (.bool true)) := fun W hW => by have := few_any W a0 a1 c0 c1 ps.length l1 (H.below hW).r1; rw [f1] at this; exact this
  have HF2 : Hid (∀ W, Below w.heap.size w W → Gives Tryz.prog 49 #[.slice a0 ps.length c0, .slice a2 l2.length c2] W (.bool true)) := fun W hW => by have := few_any W a0 a2 c0 c2 ps.length l2 (H.below hW).r2; rw [f2] at this; exact this
  have HC1 : Hid (∀ W, Below w.heap.size w W → Gives Tryz.prog 50 #[.slice a0 ps.length c0, .slice a1 l1.length c1] W (.int .i64 (ccode ps l1))) := fun W hW => lcheck_any W a0 a1 c0 c1 ps l1 (H.below hW).rp H.hi H.hl (H.below hW).r1 H.n1 H.s1 (H.below hW).L
  have HC2 : Hid (∀ W, Below w.heap.size w W → Gives Tryz.prog 50 #[.slice a0 ps.length c0, .slice a2 l2.length c2] W (.int .i64 (ccode ps l2))) := fun W hW => lcheck_any W a0 a2 c0 c2 ps l2 (H.below hW).rp H.hi H.hl (H.below hW).r2 H.n2 H.s2 (H.below hW).L
  have HSC : Hid (∀ W, Below w.heap.size w W → Gives Tryz.prog 51 #[.slice a0 ps.length c0, .slice a1 l1.length c1] W (.int .i64 (ccode ps l1))) := fun W hW => sizeCheck_any W a0 a1 c0 c1 ps l1 (H.below hW).rp H.hi (Nat.le_trans H.hl (by decide)) (H.below hW).r1 (Nat.le_trans H.n1 (by decide)) H.s1 (H.below hW).L
  have HCA : Hid (∀ W g, Below w.heap.size w W → W.heap[g]? = some (.cells #[.slice a1 l1.length c1, .slice a2 l2.length c2] 34 (0, 0)) → Gives Tryz.prog 52 #[.slice a0 ps.length c0, .slice (some ⟨g, 0, none⟩) 2 2] W (.int .i64 (lcode ps [l1, l2]))) := fun W g hW hg => H.all hW hg
  have HE1 : Hid (∀ W, Below w.heap.size w W → Gives Tryz.prog 53 #[.slice a1 l1.length c1, .slice a2 l2.length c2] W (.bool (decide (l1 = l2)))) := fun W hW => sizeEqual_any W a1 a2 c1 c2 l1 l2 (H.below hW).r1 (H.below hW).r2 (Nat.le_trans H.n1 (by decide))
  have HE2 : Hid (∀ W, Below w.heap.size w W → Gives Tryz.prog 20 #[.slice a1 l1.length c1, .slice a2 l2.length c2] W (.bool (decide (l1 = l2)))) := fun W hW => equalS_any W a1 a2 c1 c2 l1 l2 (H.below hW).r1 (H.below hW).r2 (Nat.le_trans H.n1 (by decide))
  have HE3 : Hid (∀ W, Below w.heap.size w W → Gives Tryz.prog 53 #[.slice a1 l1.length c1, .slice a1 l1.length c1] W (.bool true)) := fun W hW => by have := sizeEqual_any W a1 a1 c1 c1 l1 l1 (H.below hW).r1 (H.below hW).r1 (Nat.le_trans H.n1 (by decide)); rw [decide_eq_true rfl] at this; exact this
  generalize hz : decide (l1 = l2) = z at *
  clear hz
  have e3 : lcode ps [l1, l2] = ccode ps l1 := by rw [lcode_pair, if_neg e1]
  have hcl : lcode ps [l1, l2] ≠ 0 := by rw [e3]; exact e1
  have HAdd : Hid (∀ W, Below w.heap.size w W → Gives Tryz.prog 22 #[.slice a0 ps.length c0, .slice a1 l1.length c1, .slice a2 l2.length c2] W (.tuple #[.slice none 0 0, .int .i64 (lcode ps [l1, l2])])) := fun W hW => Add_err W ps a0 a1 a2 c0 c1 c2 l1 l2 (H.below hW) hcl
  have HSub : Hid (∀ W, Below w.heap.size w W → Gives Tryz.prog 26 #[.slice a0 ps.length c0, .slice a1 l1.length c1, .slice a2 l2.length c2] W (.tuple #[.slice none 0 0, .int .i64 (lcode ps [l1, l2])])) := fun W hW => Sub_err W ps a0 a1 a2 c0 c1 c2 l1 l2 (H.below hW) hcl
  have HCmp : Hid (∀ W, Below w.heap.size w W → Gives Tryz.prog 21 #[.slice a0 ps.length c0, .slice a1 l1.length c1, .slice a2 l2.length c2] W (.tuple #[.int .i64 0, .int .i64 (lcode ps [l1, l2])])) := fun W hW => Compare_err W ps a0 a1 a2 c0 c1 c2 l1 l2 (H.below hW) hcl
  have HFlo : Hid (∀ W, Below w.heap.size w W → Gives Tryz.prog 30 #[.slice a0 ps.length c0, .slice a1 l1.length c1, .slice a2 l2.length c2] W (.tuple #[.string ⟨#[]⟩, .int .i64 (lcode ps [l1, l2])])) := fun W hW => Floor_err W ps a0 a1 a2 c0 c1 c2 l1 l2 (H.below hW) hcl
  have HRou : Hid (∀ W, Below w.heap.size w W → Gives Tryz.prog 31 #[.slice a0 ps.length c0, .slice a1 l1.length c1, .slice a2 l2.length c2] W (.tuple #[.string ⟨#[]⟩, .int .i64 (lcode ps [l1, l2])])) := fun W hW => Round_err W ps a0 a1 a2 c0 c1 c2 l1 l2 (H.below hW) hcl
  have HRem : Hid (∀ W, Below w.heap.size w W → Gives Tryz.prog 32 #[.slice a0 ps.length c0, .slice a1 l1.length c1, .slice a2 l2.length c2] W (.tuple #[.slice none 0 0, .int .i64 (lcode ps [l1, l2])])) := fun W hW => Remainder_err W ps a0 a1 a2 c0 c1 c2 l1 l2 (H.below hW) hcl
  have hall : ∀ l ∈ [l1, l2], l.length ≤ 1000000 ∧ Ssz l := by intro l hl; simp only [List.mem_cons, List.not_mem_nil, or_false] at hl; rcases hl with rfl | rfl; exact ⟨Nat.le_trans H.n1 (by decide), H.s1⟩; exact ⟨Nat.le_trans H.n2 (by decide), H.s2⟩
  have HSor : Hid (∀ W g, Below w.heap.size w W → W.heap[g]? = some (.cells #[.slice a1 l1.length c1, .slice a2 l2.length c2] 34 (0, 0)) → Gives Tryz.prog 47 #[.slice a0 ps.length c0, .slice (some ⟨g, 0, none⟩) 2 2] W (.tuple #[.slice none 0 0, .int .i64 (lcode ps [l1, l2])])) := fun W g hW hg =>
    Sort_err W ps a0 _ c0 2 [l1, l2] (H.below hW).rp H.hi (Nat.le_trans H.hl (by decide)) (rdl_two hg (H.below hW).r1 (H.below hW).r2) (by simp) hall hcl (H.below hW).L
  have HCom : Hid (∀ W g, Below w.heap.size w W → W.heap[g]? = some (.cells #[.slice a1 l1.length c1, .slice a2 l2.length c2] 34 (0, 0)) → Gives Tryz.prog 16 #[.slice a0 ps.length c0, .slice (some ⟨g, 0, none⟩) 2 2, .slice none 0 0] W (.tuple #[.slice none 0 0, .int .i64 (lcode ps [l1, l2])])) := fun W g hW hg =>
    combine_err W a0 _ none c0 2 0 0 ps [l1, l2] (H.below hW).rp H.hi (Nat.le_trans H.hl (by decide)) (rdl_two hg (H.below hW).r1 (H.below hW).r2) (by simp) hall hcl (H.below hW).L
  have HScl : Hid (∀ W, Below w.heap.size w W → Gives Tryz.prog 23 #[.slice a0 ps.length c0, .slice a1 l1.length c1, .agg #[.string ⟨#[]⟩, .string ⟨#[]⟩]] W (.tuple #[.slice none 0 0, .int .i64 (ccode ps l1)])) := fun W hW => Scale_err W ps a0 a1 a2 c0 c1 l1 l2 _ _ (H.below hW) e1
  have HSgn : Hid (∀ W, Below w.heap.size w W → Gives Tryz.prog 27 #[.slice a0 ps.length c0, .slice a1 l1.length c1] W (.tuple #[.int .i64 0, .int .i64 (ccode ps l1)])) := fun W hW => Sign_err W ps a0 a1 a2 c0 c1 l1 l2 (H.below hW) e1
  have HAbs : Hid (∀ W, Below w.heap.size w W → Gives Tryz.prog 28 #[.slice a0 ps.length c0, .slice a1 l1.length c1] W (.tuple #[.slice none 0 0, .int .i64 (ccode ps l1)])) := fun W hW => Abs_err W ps a0 a1 a2 c0 c1 l1 l2 (H.below hW) e1
  have HTxt : Hid (∀ W, Below w.heap.size w W → Gives Tryz.prog 45 #[.slice a0 ps.length c0, .slice a1 l1.length c1] W (.tuple #[.string ⟨#[]⟩, .int .i64 (ccode ps l1)])) := fun W hW => Text_err W ps a0 a1 a2 c0 c1 l1 l2 (H.below hW) e1
  rw [e3] at HCA HAdd HSub HCmp HFlo HRou HRem HSor HCom
  have hp0 : (ccode ps l1 == 0) = false := by rw [beq_eq_false_iff_ne]; exact e1
  clear H f1 f2 e1 e3 hcl hall
  generalize ccode ps l1 = code at *
  generalize ccode ps l2 = nxt at *
  generalize ps.length = n at *
  generalize l1.length = m1 at *
  generalize l2.length = m2 at *
  have B0 := Lib.hid (Below.refl w.heap.size w)
  go_enter Tryz.func11, Tryz.ntmps11
  go_wp2_with fail
  refine Calls.mono (HK.out _ B0.out) ?_
  rintro e_ w50 ⟨rfl, hb_⟩
  have B_50 := Lib.hid (B0.out.trans (hb_.mono B0.out.size))
  clear hb_ B0
  go_wp2_with fail
  refine Calls.mono (HF1.out _ B_50.out) ?_
  rintro e_ w51 ⟨rfl, hb_⟩
  have B_51 := Lib.hid (B_50.out.trans (hb_.mono B_50.out.size))
  clear hb_ B_50
  go_wp2_with fail
  refine Calls.mono (HF2.out _ B_51.out) ?_
  rintro e_ w52 ⟨rfl, hb_⟩
  have B_52 := Lib.hid (B_51.out.trans (hb_.mono B_51.out.size))
  clear hb_ B_51
  go_wp2_with fail
  refine Calls.mono (HC1.out _ B_52.out) ?_
  rintro e_ w53 ⟨rfl, hb_⟩
  have B_53 := Lib.hid (B_52.out.trans (hb_.mono B_52.out.size))
  clear hb_ B_52
  go_wp2_with fail
  refine Calls.mono (HC2.out _ B_53.out) ?_
  rintro e_ w54 ⟨rfl, hb_⟩
  have B_54 := Lib.hid (B_53.out.trans (hb_.mono B_53.out.size))
  clear hb_ B_53
  go_wp2_with fail
  refine Calls.mono (HSC.out _ B_54.out) ?_
  rintro e_ w55 ⟨rfl, hb_⟩
  have B_55 := Lib.hid (B_54.out.trans (hb_.mono B_54.out.size))
  clear hb_ B_54
  go_wp2_with fail
  have Bx_ := Lib.hid (B_55.out.alloc B_55.out.size (.cells #[.slice a1 m1 c1, .slice a2 m2 c2] 34))
  refine Calls.mono (HCA.out _ _ Bx_.out (heap_at w55 _ _ _ rfl)) ?_
  rintro e_ w56 ⟨rfl, hb_⟩
  have B_56 := Lib.hid (Bx_.out.trans (hb_.mono Bx_.out.size))
  clear hb_ Bx_ B_55
  cases z
  · skip
    go_wp2_with fail
    refine Calls.mono (HE1.out _ B_56.out) ?_
    rintro e_ w57 ⟨rfl, hb_⟩
    have B_57 := Lib.hid (B_56.out.trans (hb_.mono B_56.out.size))
    clear hb_ B_56
    go_wp2_with fail
    refine Calls.mono (HE2.out _ B_57.out) ?_
    rintro e_ w58 ⟨rfl, hb_⟩
    have B_58 := Lib.hid (B_57.out.trans (hb_.mono B_57.out.size))
    clear hb_ B_57
    go_wp2_with fail
    refine Calls.mono (HE3.out _ B_58.out) ?_
    rintro e_ w59 ⟨rfl, hb_⟩
    have B_59 := Lib.hid (B_58.out.trans (hb_.mono B_58.out.size))
    clear hb_ B_58
    go_wp2_with fail
    refine Calls.mono (HAdd.out _ B_59.out) ?_
    rintro e_ w60 ⟨rfl, hb_⟩
    have B_60 := Lib.hid (B_59.out.trans (hb_.mono B_59.out.size))
    clear hb_ B_59
    go_wp2_with fail
    refine Calls.mono (HSub.out _ B_60.out) ?_
    rintro e_ w61 ⟨rfl, hb_⟩
    have B_61 := Lib.hid (B_60.out.trans (hb_.mono B_60.out.size))
    clear hb_ B_60
    go_wp2_with fail
    refine Calls.mono (HCmp.out _ B_61.out) ?_
    rintro e_ w62 ⟨rfl, hb_⟩
    have B_62 := Lib.hid (B_61.out.trans (hb_.mono B_61.out.size))
    clear hb_ B_61
    go_wp2_with fail
    refine Calls.mono (HFlo.out _ B_62.out) ?_
    rintro e_ w63 ⟨rfl, hb_⟩
    have B_63 := Lib.hid (B_62.out.trans (hb_.mono B_62.out.size))
    clear hb_ B_62
    go_wp2_with fail
    refine Calls.mono (HRou.out _ B_63.out) ?_
    rintro e_ w64 ⟨rfl, hb_⟩
    have B_64 := Lib.hid (B_63.out.trans (hb_.mono B_63.out.size))
    clear hb_ B_63
    go_wp2_with fail
    refine Calls.mono (HRem.out _ B_64.out) ?_
    rintro e_ w65 ⟨rfl, hb_⟩
    have B_65 := Lib.hid (B_64.out.trans (hb_.mono B_64.out.size))
    clear hb_ B_64
    go_wp2_with fail
    have Bx_ := Lib.hid (B_65.out.alloc B_65.out.size (.cells #[.slice a1 m1 c1, .slice a2 m2 c2] 34))
    refine Calls.mono (HSor.out _ _ Bx_.out (heap_at w65 _ _ _ rfl)) ?_
    rintro e_ w66 ⟨rfl, hb_⟩
    have B_66 := Lib.hid (Bx_.out.trans (hb_.mono Bx_.out.size))
    clear hb_ Bx_ B_65
    go_wp2_with fail
    have Bx_ := Lib.hid (B_66.out.alloc B_66.out.size (.cells #[.slice a1 m1 c1, .slice a2 m2 c2] 34))
    refine Calls.mono (HCom.out _ _ Bx_.out (heap_at w66 _ _ _ rfl)) ?_
    rintro e_ w67 ⟨rfl, hb_⟩
    have B_67 := Lib.hid (Bx_.out.trans (hb_.mono Bx_.out.size))
    clear hb_ Bx_ B_66
    go_wp2_with fail
    refine Calls.mono (HScl.out _ B_67.out) ?_
    rintro e_ w68 ⟨rfl, hb_⟩
    have B_68 := Lib.hid (B_67.out.trans (hb_.mono B_67.out.size))
    clear hb_ B_67
    go_wp2_with fail
    refine Calls.mono (HSgn.out _ B_68.out) ?_
    rintro e_ w69 ⟨rfl, hb_⟩
    have B_69 := Lib.hid (B_68.out.trans (hb_.mono B_68.out.size))
    clear hb_ B_68
    go_wp2_with fail
    refine Calls.mono (HAbs.out _ B_69.out) ?_
    rintro e_ w70 ⟨rfl, hb_⟩
    have B_70 := Lib.hid (B_69.out.trans (hb_.mono B_69.out.size))
    clear hb_ B_69
    go_wp2_with fail
    refine Calls.mono (HTxt.out _ B_70.out) ?_
    rintro e_ w71 ⟨rfl, hb_⟩
    have B_71 := Lib.hid (B_70.out.trans (hb_.mono B_70.out.size))
    clear hb_ B_70
    go_wp2_with fail
    go_ret
    exact ⟨rfl, B_71.out⟩
  · skip
    go_wp2_with fail
    refine Calls.mono (HE1.out _ B_56.out) ?_
    rintro e_ w72 ⟨rfl, hb_⟩
    have B_72 := Lib.hid (B_56.out.trans (hb_.mono B_56.out.size))
    clear hb_ B_56
    go_wp2_with fail
    refine Calls.mono (HE2.out _ B_72.out) ?_
    rintro e_ w73 ⟨rfl, hb_⟩
    have B_73 := Lib.hid (B_72.out.trans (hb_.mono B_72.out.size))
    clear hb_ B_72
    go_wp2_with fail
    refine Calls.mono (HE3.out _ B_73.out) ?_
    rintro e_ w74 ⟨rfl, hb_⟩
    have B_74 := Lib.hid (B_73.out.trans (hb_.mono B_73.out.size))
    clear hb_ B_73
    go_wp2_with fail
    refine Calls.mono (HAdd.out _ B_74.out) ?_
    rintro e_ w75 ⟨rfl, hb_⟩
    have B_75 := Lib.hid (B_74.out.trans (hb_.mono B_74.out.size))
    clear hb_ B_74
    go_wp2_with fail
    refine Calls.mono (HSub.out _ B_75.out) ?_
    rintro e_ w76 ⟨rfl, hb_⟩
    have B_76 := Lib.hid (B_75.out.trans (hb_.mono B_75.out.size))
    clear hb_ B_75
    go_wp2_with fail
    refine Calls.mono (HCmp.out _ B_76.out) ?_
    rintro e_ w77 ⟨rfl, hb_⟩
    have B_77 := Lib.hid (B_76.out.trans (hb_.mono B_76.out.size))
    clear hb_ B_76
    go_wp2_with fail
    refine Calls.mono (HFlo.out _ B_77.out) ?_
    rintro e_ w78 ⟨rfl, hb_⟩
    have B_78 := Lib.hid (B_77.out.trans (hb_.mono B_77.out.size))
    clear hb_ B_77
    go_wp2_with fail
    refine Calls.mono (HRou.out _ B_78.out) ?_
    rintro e_ w79 ⟨rfl, hb_⟩
    have B_79 := Lib.hid (B_78.out.trans (hb_.mono B_78.out.size))
    clear hb_ B_78
    go_wp2_with fail
    refine Calls.mono (HRem.out _ B_79.out) ?_
    rintro e_ w80 ⟨rfl, hb_⟩
    have B_80 := Lib.hid (B_79.out.trans (hb_.mono B_79.out.size))
    clear hb_ B_79
    go_wp2_with fail
    have Bx_ := Lib.hid (B_80.out.alloc B_80.out.size (.cells #[.slice a1 m1 c1, .slice a2 m2 c2] 34))
    refine Calls.mono (HSor.out _ _ Bx_.out (heap_at w80 _ _ _ rfl)) ?_
    rintro e_ w81 ⟨rfl, hb_⟩
    have B_81 := Lib.hid (Bx_.out.trans (hb_.mono Bx_.out.size))
    clear hb_ Bx_ B_80
    go_wp2_with fail
    have Bx_ := Lib.hid (B_81.out.alloc B_81.out.size (.cells #[.slice a1 m1 c1, .slice a2 m2 c2] 34))
    refine Calls.mono (HCom.out _ _ Bx_.out (heap_at w81 _ _ _ rfl)) ?_
    rintro e_ w82 ⟨rfl, hb_⟩
    have B_82 := Lib.hid (Bx_.out.trans (hb_.mono Bx_.out.size))
    clear hb_ Bx_ B_81
    go_wp2_with fail
    refine Calls.mono (HScl.out _ B_82.out) ?_
    rintro e_ w83 ⟨rfl, hb_⟩
    have B_83 := Lib.hid (B_82.out.trans (hb_.mono B_82.out.size))
    clear hb_ B_82
    go_wp2_with fail
    refine Calls.mono (HSgn.out _ B_83.out) ?_
    rintro e_ w84 ⟨rfl, hb_⟩
    have B_84 := Lib.hid (B_83.out.trans (hb_.mono B_83.out.size))
    clear hb_ B_83
    go_wp2_with fail
    refine Calls.mono (HAbs.out _ B_84.out) ?_
    rintro e_ w85 ⟨rfl, hb_⟩
    have B_85 := Lib.hid (B_84.out.trans (hb_.mono B_84.out.size))
    clear hb_ B_84
    go_wp2_with fail
    refine Calls.mono (HTxt.out _ B_85.out) ?_
    rintro e_ w86 ⟨rfl, hb_⟩
    have B_86 := Lib.hid (B_85.out.trans (hb_.mono B_85.out.size))
    clear hb_ B_85
    go_wp2_with fail
    go_ret
    exact ⟨rfl, B_86.out⟩
end Go.Proofs.YtlomhfknmhaboaaGreatDoor

/- For any list of at most 8 primes and any size of at most 8 coefficients with numbers of at most 45 digits, Check and CheckAll return OK or the first error, and so do the functions with a size; Equal compares coefficients. No condition: the statement holds for every input. -/
namespace Go.Proofs.YtlomhfknmhaboaaGreatDoor
open Go.ChangeShapes Go.WideShapes Go.ChangeAt Go.RowKit

theorem lawChecks (w : World) (a0 a1 a2 : Option Addr) (c0 c1 c2 : Nat) (ps : List Int) (l1 l2 : Pairs) (rp : Rd w a0 (ints ps)) (hi : I64s ps) (r1 : Rd w a1 (cellsS l1)) (r2 : Rd w a2 (cellsS l2)) (L : Laid w) :
    Gives Tryz.prog 11 #[.slice a0 ps.length c0, .slice a1 (l1.map fun q => [Value.string q.1, Value.string q.2]).length c1, .slice a2 (l2.map fun q => [Value.string q.1, Value.string q.2]).length c2] w (.bool true) := by
  rw [List.length_map, List.length_map]
  cases h1 : fewB ps.length l1
  · exact lawChk_many w a0 a1 a2 c0 c1 c2 _ l1 l2 r1 r2 (.inl h1) L
  · cases h2 : fewB ps.length l2
    · exact lawChk_many w a0 a1 a2 c0 c1 c2 _ l1 l2 r1 r2 (.inr h2) L
    · obtain ⟨b1, b2, b3⟩ := few_of h1
      obtain ⟨d1, d2, d3⟩ := few_of h2
      have H : TwoS w ps a0 a1 a2 l1 l2 := ⟨rp, hi, by omega, r1, r2, by omega, by omega, fun x hx => ⟨Nat.le_trans (b3 x hx).1 (by decide), Nat.le_trans (b3 x hx).2 (by decide)⟩, fun x hx => ⟨Nat.le_trans (d3 x hx).1 (by decide), Nat.le_trans (d3 x hx).2 (by decide)⟩, L⟩
      by_cases e1 : ccode ps l1 = 0
      · by_cases e2 : ccode ps l2 = 0
        · exact lawChk_right w ps a0 a1 a2 c0 c1 c2 l1 l2 H h1 h2 e1 e2
        · exact lawChk_second w ps a0 a1 a2 c0 c1 c2 l1 l2 H h1 h2 e1 e2
      · exact lawChk_first w ps a0 a1 a2 c0 c1 c2 l1 l2 H h1 h2 e1

set_option maxRecDepth 100000 in
theorem sizeChecks_lifted (os : Os) (started : os.Started) (H : Type) (enc : TypeId × Value → H) :
    ReturnsInHanded {} Tryz.checked os 11 .any (fun w args => (Rows.sizeChecksSpec.pre enc Tryz.prog Tryz.f11 [] false w args ∧ laidMetH Tryz.prog laidL w) ∧ sizedMet enc Tryz.prog Tryz.f11 (OpenSpec.ofChange Rows.sizeChecksSpec) false w args)
      (Rows.sizeChecksSpec.post enc Tryz.prog Tryz.f11 false true false false) := by
  refine returnsInHanded_of_change_and (C := Tryz.checked) (X := fun w _ => laidMetH Tryz.prog laidL w) (fun _ _ _ hh h => h.of_heap hh) own started (by kernel_rfl) Tryz.func11
    (ChangeSpec.witness_shaped (enc := enc) (C := Tryz.checked) (os := os) (X := fun w _ => laidMetH Tryz.prog laidL w) false (World.doorLaid Tryz.prog 400 os) #[.slice none 0 0, .slice none 0 0, .slice none 0 0] 8 rfl (World.shaped_of_RefB (by kernel_rfl) (by kernel_rfl)) (by kernel_rfl) (by kernel_rfl) (by kernel_rfl) (door_met os _)) ?_
  intro W base args ds gs before hval0 hW _ _ hL _
  have hval : ∀ (j : Nat) t v, Tryz.f11.params[j]? = some t → args[j]? = some v → Value.okWide Tryz.prog W .any base t v := hval0
  have hW' := hW
  obtain ⟨p, q, hA0, hV, rfl, hfz, hnd⟩ := hW
  have hA : DataW.TrodAll enc Tryz.prog W 0 (fun _ => true) true Tryz.f11.params.toList args.toList ds p := hA0
  rw [Tryz.params11] at hA hval
  obtain ⟨v0, vs0, d0, ds0, p0, q0, hargs, rfl, rfl, h0, r0⟩ := trodAll_cons hA
  obtain ⟨v1, vs1, d1, ds1, p1, q1, rfl, rfl, rfl, h1, r1⟩ := trodAll_cons r0
  obtain ⟨v2, vs2, d2, ds2, p2, q2, rfl, rfl, rfl, h2, r2⟩ := trodAll_cons r1
  obtain ⟨rfl, rfl, rfl⟩ := trodAll_nil r2
  obtain rfl : args = #[v0, v1, v2] := by cases args; simp_all
  obtain ⟨rfl, rfl⟩ := trodVars_none hV
  have k0 := h0
  have lt0 : ∀ x ∈ p0, x.block < W.heap.size := by obtain ⟨m, hm⟩ := k0; exact DataW.trod_lt m _ _ _ hm
  have k1 := h1
  have lt1 : ∀ x ∈ p1, x.block < W.heap.size := by obtain ⟨m, hm⟩ := k1; exact DataW.trod_lt m _ _ _ hm
  have k2 := h2
  have lt2 : ∀ x ∈ p2, x.block < W.heap.size := by obtain ⟨m, hm⟩ := k2; exact DataW.trod_lt m _ _ _ hm
  obtain ⟨a0, c0, l0, rfl, hr0, hi0, -⟩ := open_ints_any Tryz.underlying26 h0 (okWide_slice Tryz.underlying26 (hval 0 26 v0 rfl rfl))
  obtain ⟨a1, c1, l1, rfl, hr1, hq1, -⟩ := open_slice_of Tryz.underlying34 cellsRat (by decide) (Q := fun cs => ∃ q : ByteArray × ByteArray, cs = [.string q.1, .string q.2] ∧ True) (fun n cs x h => by
    obtain ⟨q, e, -, -⟩ := open_rat h
    exact ⟨q, e, trivial⟩) h1 (okWide_slice Tryz.underlying34 (hval 1 34 v1 rfl rfl))
  obtain ⟨f1, rfl, -⟩ := choose_list l1 hq1
  obtain ⟨a2, c2, l2, rfl, hr2, hq2, -⟩ := open_slice_of Tryz.underlying34 cellsRat (by decide) (Q := fun cs => ∃ q : ByteArray × ByteArray, cs = [.string q.1, .string q.2] ∧ True) (fun n cs x h => by
    obtain ⟨q, e, -, -⟩ := open_rat h
    exact ⟨q, e, trivial⟩) h2 (okWide_slice Tryz.underlying34 (hval 2 34 v2 rfl rfl))
  obtain ⟨f2, rfl, -⟩ := choose_list l2 hq2
  clear hA0 hval0
  refine (lawChecks W a0 a1 a2 c0 c1 c2 l0 f1 f2 hr0 hi0 (rdk_rd hr1) (rdk_rd hr2) (laid_of hL)).mono fun e W' ⟨he, bel⟩ => ?_
  subst he
  exact ⟨_, rfl, _, _, _, [], _, [], hW', trodAll_mk1 (shut_bool Tryz.underlying4 _), (trodAll_cons_mk (Below.trod laidOut (by kernel_rfl) (of_decide_eq_true (by kernel_rfl)) k0 bel lt0) (trodAll_cons_mk (Below.trod laidOut (by kernel_rfl) (of_decide_eq_true (by kernel_rfl)) k1 bel lt1) (trodAll_cons_mk (Below.trod laidOut (by kernel_rfl) (of_decide_eq_true (by kernel_rfl)) k2 bel lt2) trodAll_mk0))), rfl, bel.frame _, fun h => by cases h⟩

theorem sizeChecks_row : Rows.SizeChecksSaid :=
  OpenClaim.holds_of_wide 11 Tryz.f11 rfl rfl rfl rfl rfl rfl rfl ⟨rfl, rfl, rfl, rfl, rfl⟩ rfl rfl rfl rfl rfl (by kernel_rfl) Tryz.func11 (by kernel_rfl)
    (of_decide_eq_true (by kernel_rfl)) (by unfold Func.isWrapper; first | (rw [if_pos (by decide +kernel)]; kernel_rfl) | (rw [if_neg (by decide +kernel)]; exact ⟨rfl, rfl⟩))
    (fun os started H enc _ => sizeChecks_lifted os started H enc)

theorem sizeChecks_holds : Rows.SizeChecksCardSaid :=
  Claim7.holds_tied_plain_at .later [] [.data, .data, .data, .sentinel, .sentinel] true (true, "9d0d2a1671fb7254a0d6cd7f535de0290e91414b206b40d6b5ae62423c22e5c1") true
    sizeChecks_row (fun _ h => by cases h) (by kernel_rfl) (fun _ h => by cases h) sizeChecks_row_tie rfl ⟨rfl, rfl⟩ (by kernel_rfl) rfl
    (fun f fn hf hfn => by
      obtain rfl : f = 11 := Option.some.inj ((show Tryz.prog.funcNamed "schisma/schismalaw13.SizeChecks" = some 11 by kernel_rfl).symm.trans hf) |>.symm
      obtain rfl : fn = Tryz.f11 := (Option.some.inj (Tryz.func11.symm.trans hfn)).symm
      exact ⟨by kernel_rfl, fun j t ht => by
        rw [Tryz.params11] at ht
        have hm : t ∈ [26, 34, 34] := by simpa using Array.mem_of_getElem? ht
        have hall : ([26, 34, 34].all fun u => !Tryz.prog.wantsStandIn u) = true := by kernel_rfl
        exact (show Tryz.prog.wantsStandIn t = false by simpa using List.all_eq_true.1 hall t hm)⟩)
    (by kernel_rfl)
#print axioms sizeChecks_holds
end Go.Proofs.YtlomhfknmhaboaaGreatDoor
