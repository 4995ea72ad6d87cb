/- The walk of the law's necklaces. -/
import Derived.Test.YtgijighdalaemaaNeckB
import Derived.Laws.AppendOwnNone
namespace Go.Proofs.Ytgijighdalaemaa
open Go.RowKit

noncomputable def bruteK (f : Nat) (rest : List Int) (w : List UInt8) (k : Nat) : List (List UInt8) :=
  (List.range k).flatMap fun c => if rest.getD c 0 = 0 then [] else brute f (rest.set c (rest.getD c 0 - 1)) (w ++ [(97 + c).toUInt8])

theorem brute_succ (f : Nat) (rest : List Int) (w : List UInt8) : brute (f + 1) rest w = bruteK f rest w rest.length := by
  unfold brute bruteK; rfl

theorem bruteK_succ (f : Nat) (rest : List Int) (w : List UInt8) (k : Nat) :
    bruteK f rest w (k + 1) = bruteK f rest w k ++ (if rest.getD k 0 = 0 then [] else brute f (rest.set k (rest.getD k 0 - 1)) (w ++ [(97 + k).toUInt8])) := by
  unfold bruteK
  rw [List.range_succ, List.flatMap_append, List.flatMap_singleton]

theorem flat_len {l : List Nat} {g : Nat → List (List UInt8)} {m : Nat} (h : ∀ c ∈ l, (g c).length ≤ m) : (l.flatMap g).length ≤ l.length * m := by
  induction l with
  | nil => simp
  | cons x l ih =>
    rw [List.flatMap_cons, List.length_append, List.length_cons, Nat.succ_mul]
    have h1 := h x List.mem_cons_self
    have h2 := ih fun c hc => h c (List.mem_cons_of_mem _ hc)
    omega

theorem brute_len : ∀ (f : Nat) (rest : List Int) (w : List UInt8), rest.length ≤ 4 → (brute f rest w).length ≤ 4 ^ f
  | 0, rest, w, _ => by unfold brute; split <;> simp
  | f + 1, rest, w, h => by
    unfold brute
    refine Nat.le_trans (flat_len (m := 4 ^ f) fun c _ => ?_) ?_
    · split
      · simp
      · exact brute_len f _ _ (by rw [List.length_set]; exact h)
    · rw [List.length_range, Nat.pow_succ, Nat.mul_comm]
      exact Nat.mul_le_mul_left _ h

theorem bruteK_len (f : Nat) (rest : List Int) (w : List UInt8) (k : Nat) (h : rest.length ≤ 4) (hk : k ≤ 4) : (bruteK f rest w k).length ≤ 4 ^ (f + 1) := by
  unfold bruteK
  refine Nat.le_trans (flat_len (m := 4 ^ f) fun c _ => ?_) ?_
  · split
    · simp
    · exact brute_len f _ _ (by rw [List.length_set]; exact h)
  · rw [List.length_range, Nat.pow_succ, Nat.mul_comm]
    exact Nat.mul_le_mul_left _ hk

theorem sum_set : ∀ (l : List Int) (k : Nat) (x : Int), k < l.length → (l.set k x).sum = l.sum - l.getD k 0 + x
  | [], k, x, h => by simp at h
  | y :: l, 0, x, _ => by simp; omega
  | y :: l, k + 1, x, h => by
    have := sum_set l k x (by simpa using h)
    simp only [List.set_cons_succ, List.sum_cons, this, List.getD_cons_succ]
    omega

theorem sum_nonneg : ∀ (l : List Int), (∀ x ∈ l, 0 ≤ x) → 0 ≤ l.sum
  | [], _ => by simp
  | y :: l, h => by
    have h1 := h y List.mem_cons_self
    have h2 := sum_nonneg l fun x hx => h x (List.mem_cons_of_mem _ hx)
    rw [List.sum_cons]; omega

/-- The sum of the first numbers. -/
def sumK (l : List Int) (k : Nat) : Int := (l.take k).sum

theorem sumK_succ (l : List Int) (k : Nat) (h : k < l.length) : sumK l (k + 1) = sumK l k + l.getD k 0 := by
  have e : l.getD k 0 = l[k] := by rw [List.getD_eq_getElem?_getD, List.getElem?_eq_getElem h]; rfl
  unfold sumK
  rw [List.take_succ_eq_append_getElem h, List.sum_append, e]; simp

theorem sumK_bound (l : List Int) (h : ∀ x ∈ l, 0 ≤ x) (k : Nat) : 0 ≤ sumK l k ∧ sumK l k ≤ l.sum := by
  refine ⟨sum_nonneg _ fun x hx => h x (List.mem_of_mem_take hx), ?_⟩
  have := sum_nonneg (l.drop k) fun x hx => h x (List.mem_of_mem_drop hx)
  have e : l.sum = (l.take k).sum + (l.drop k).sum := by rw [← List.sum_append, List.take_append_drop]
  unfold sumK; omega

/-- append of what lies at an address, onto a row of the call's own. -/
theorem wpList_append_at {P : Program} {w : World} {ops : Array Oper} {rest : List Oper} {o : Oper} {a : Act} {Q : Exit → Act → World → Prop} (hgd : o.guard = none) (s x : Operand) (t : TypeId)
    (ho : o.op = .call { callee := .builtin .append, args := #[s, x], argTypes := #[t, t] })
    {e : TypeId} {z : Value} {size bytes : Nat} (E : ElemOf P t e z size bytes)
    (v : Value) (ad : Addr) (m c : Nat) (news : List Value) (hs : a.eval s = v) (hx : a.eval x = .slice (some ad) m c)
    {base n : Nat} {xs : List Value} (hown : w.ownsRow base e size v n xs) (hbase : base ≤ w.heap.size)
    (hl : news.length = m * size) (hnews : ∀ j u, news[j]? = some u → w.cell? (ad.add j) = some u) (h1 : ∀ u ∈ news, u.oneCell' = true) (h63 : n + m ≤ 4611686018427387904) (hbytes : (n + m) * bytes ≤ 140737488355328)
    (h : ∀ v' w', w'.ownsRow base e size v' (n + m) (xs ++ news) → w.grownBy w' v.ownBlock → (v' = .slice none 0 0 ↔ v = .slice none 0 0 ∧ m = 0) → wpList P ops Q rest (a.put o.dst v') w') :
    wpList P ops Q (o :: rest) a w := by
  obtain ⟨i, hi, hz, hsize, hby⟩ := E.info
  exact wpList_append_own _ hgd s x t ho base e i z size bytes E.ht hi hz hsize hby E.hzs E.pos v n xs hs hown ad m c news hx hl hnews h1 (by unfold maxLen; omega) hbytes hbase h

/-- An empty row just made. -/
theorem own_empty (w : World) (B : Nat) (hB : B ≤ w.heap.size) (e : TypeId) (size : Nat) : (w.alloc (.cells #[] e)).ownsRow B e size (.slice (some ⟨w.heap.size, 0, none⟩) 0 0) 0 [] :=
  ⟨by simp, .inr ⟨w.heap.size, 0, #[], rfl, hB, heap_alloc_new _ _, Nat.le_refl _, by unfold maxLen; omega, by simp, by simp⟩⟩

/-- What the law's necklaces returns. -/
def NkOut (f : Nat) (rest : List Int) (word : List UInt8) (w : World) (e : Ending) (w' : World) : Prop :=
  ∃ v, e = .returned v ∧ w'.ownsRow w.heap.size 9 1 v (brute f rest word).length (strs (brute f rest word)) ∧ Below w.heap.size w w'

def NkSaid (f : Nat) : Prop := ∀ (w : World) (a : Option Addr) (c : Nat) (rest : List Int) (word : List UInt8),
  ReadsInts w a rest → rest.length ≤ 4 → (∀ x ∈ rest, 0 ≤ x) → rest.sum = f → word.length + f ≤ 8 → 1 ≤ word.length + f →
  Calls Try.prog 19 #[.string (bs word), .slice a rest.length c] w (NkOut f rest word w)

set_option maxRecDepth 100000 in
set_option maxHeartbeats 4000000 in
theorem nk_succ (f : Nat) (IH : NkSaid f) : NkSaid (f + 1) := by
  intro w a c rest word hr h4 hpos hsum hw8 hw1
  have HIH := Lib.hid IH
  have Hr := Lib.hid hr
  have Hpos := Lib.hid (fun k => getD_nonneg hpos k)
  have HposM := Lib.hid hpos
  have Hsum := Lib.hid hsum
  have Hbd := Lib.hid (sumK_bound rest hpos)
  have hL := Lib.hid (show word.length + (f + 1) ≤ 8 from hw8)
  have hsz : (bs word).size = word.length := bs_size word
  clear hr hpos hsum IH
  generalize hn : rest.length = n at *
  have Hn := Lib.hid hn
  clear hn
  generalize hs : bs word = s at *
  have Hs := Lib.hid hs
  have Hsz := Lib.hid hsz
  clear hs hsz
  go_enter Try.func19, Try.ntmps19
  go_wp2_with fail
  go_loopw [5, 6, 7] (fun o l i wr => ∃ (k m c : Nat) (a : Option Addr), k ≤ n ∧ i = .int .i64 k ∧ l = .int .i64 (sumK rest k) ∧ o = .slice a m c ∧ Hid (m = (bruteK f rest word k).length) ∧ Hid (wr.ownsRow w.heap.size 9 1 (.slice a m c) m (strs (bruteK f rest word k))) ∧ Hid (Below w.heap.size w wr)) (fun _ _ i _ => n - (intOf i).toNat)
  case atStart => exact ⟨0, 0, 0, none, Nat.zero_le _, rfl, rfl, rfl, rfl, World.ownsRow_nil .., Below.refl _ _⟩
  case round =>
    obtain ⟨k, m, co, ao, hk, rfl, rfl, rfl, Hm, Hown, Hb⟩ := hrel
    by_cases hlt : k < n
    · rcases Hr.out with hr | ⟨b, off, rfl, hb, hc⟩
      · have := Hn.out; rw [hr] at this; simp at this; omega
      have cx := hc k (by rw [Hn.out]; exact hlt)
      rw [← Hb.out.cell (p := ⟨b, off + k, none⟩) hb] at cx
      have Hc := Lib.hid hc
      have hx := Hpos.out k
      obtain ⟨hs1, hs2⟩ := Hbd.out k
      rw [Hsum.out] at hs2
      have Hsk := Lib.hid (sumK_succ rest k (by rw [Hn.out]; exact hlt))
      have Hbk := Lib.hid (bruteK_succ f rest word k)
      have hx8 : rest.getD k 0 ≤ 8 := by
        have h1 := (Hbd.out (k + 1)).2
        rw [Hsk.out, Hsum.out] at h1
        omega
      clear hc
      generalize hxx : rest.getD k 0 = x at *
      generalize sumK rest k = sk at *
      have Hxx := Lib.hid hxx
      clear hxx
      by_cases hx0 : x = 0
      · subst hx0
        have Hown2 : Hid (wr.ownsRow w.heap.size 9 1 (.slice ao m co) m (strs (bruteK f rest word (k + 1)))) := by
          show World.ownsRow ..
          rw [Hbk.out, if_pos rfl, List.append_nil]; exact Hown.out
        have Hm2 : Hid (m = (bruteK f rest word (k + 1)).length) := by
          show m = _
          rw [Hbk.out, if_pos rfl, List.append_nil]; exact Hm.out
        go_wp2
        go_roundw
        case rel => exact ⟨k + 1, m, co, ao, by omega, by go_num, by rw [Hsk.out, Int.add_zero], rfl, Hm2, Hown2, Hb⟩
        case measure => simp [intOf]; omega
      · have hq : (x == 0) = false := by simpa using hx0
        have hsz0 := Hb.out.size
        go_wp2_with (at_builtin; refine wpList_append_at rfl (.tmp 28) (.tmp 29) 39 rfl elInt _ ⟨b, off, none⟩ n c (ints rest) rfl rfl (own_empty wr w.heap.size hsz0 3 1) (by simp; omega) (by rw [ints_length, Hn.out]; simp) ?c0 ?c1 (by omega) (by omega) ?_)
        case c0 =>
          intro j u hj
          have hj2 : j < rest.length := by
            have := (List.getElem?_eq_some_iff.1 hj).1
            rwa [ints_length] at this
          rw [ints_get rest j hj2] at hj
          have e : rest.getD j 0 = rest[j] := by rw [List.getD_eq_getElem?_getD, List.getElem?_eq_getElem hj2]; rfl
          have hadd : (⟨b, off, none⟩ : Addr).add j = ⟨b, off + j, none⟩ := by unfold Addr.add; split <;> simp_all
          rw [hadd, World.cell?_alloc_lt wr _ _ (by show b < _; omega), Hb.out.cell (p := ⟨b, off + j, none⟩) hb, Hc.out j hj2, e]
          exact hj
        case c1 =>
          intro u hu
          obtain ⟨y, _, rfl⟩ := List.mem_map.1 hu
          rfl
        intro v1 w1 hown1 hg1 _
        obtain ⟨g1, c1, rfl, hg11, hg12, hg13, hg14, hg15⟩ := own_open hown1 (by omega)
        have hb1 : Below w.heap.size w w1 := (Hb.out.alloc hsz0 _).grown hg1 (by simp; omega) (fun k hk => by simp [Value.ownBlock] at hk; omega)
        have Hown1 : Hid (w1.ownsRow w.heap.size 9 1 (.slice ao m co) m (strs (bruteK f rest word k))) := by
          show World.ownsRow ..
          refine (Hown.out.alloc _).kept hg1 ?_
          rcases Hown.out.2 with ⟨h, _⟩ | ⟨g, cap, cur, h, _, hg, _⟩
          · left; rw [h]; rfl
          · right
            rw [h]
            simp only [Value.ownBlock, ne_eq, Option.some.injEq]
            have := (Array.getElem?_eq_some_iff.1 hg).1
            omega
        have hcell : w1.cell? ⟨g1, k, none⟩ = some (.int .i64 x) := by
          rw [hg14 k (by omega), ints_get rest k (by rw [Hn.out]; exact hlt), ← Hxx.out, List.getD_eq_getElem?_getD, List.getElem?_eq_getElem (by rw [Hn.out]; exact hlt)]; rfl
        have hfz := hg15 k
        have hap := rows_apart Hown1.out hown1 (by decide)
        have hsto : OwnInts (w1.setCell ⟨g1, k, none⟩ (.int .i64 (x - 1))) w.heap.size (some ⟨g1, 0, none⟩) n c1 (rest.set k (x - 1)) := OwnInts.store (show OwnInts w1 w.heap.size (some ⟨g1, 0, none⟩) n c1 rest from hown1) k (x - 1)
        have hb2 : Below w.heap.size w (w1.setCell ⟨g1, k, none⟩ (.int .i64 (x - 1))) := hb1.setCell (p := ⟨g1, k, none⟩) hg11 _
        have hown2 : (w1.setCell ⟨g1, k, none⟩ (.int .i64 (x - 1))).ownsRow w.heap.size 9 1 (.slice ao m co) m (strs (bruteK f rest word k)) := Hown1.out.kept (grown_store g1 k _) hap
        have Hsto := Lib.hid hsto
        have Hb2 := Lib.hid hb2
        have Hown2 := Lib.hid hown2
        clear hap hsto hb2 hown2 hown1 hg1 hb1 Hown1 hg14 hg15 cx Hown Hb Hc
        go_upto_region 10 with (fail)
        generalize w1.setCell ⟨g1, k, none⟩ (.int .i64 (x - 1)) = w2 at *
        clear hcell hfz
        go_wp2_with fail
        refine (letter_any k _ (by omega) (by omega)).mono ?_
        rw [Int.toNat_natCast]
        rintro e w3 ⟨rfl, hb3⟩
        have Hb3 := Lib.hid (Hb2.out.trans (hb3.mono Hb2.out.size))
        have Hsto3 : Hid (OwnInts w3 w.heap.size (some ⟨g1, 0, none⟩) n c1 (rest.set k (x - 1))) := own_below Hsto.out hb3 (Nat.le_refl _)
        have Hown3 : Hid (w3.ownsRow w.heap.size 9 1 (.slice ao m co) m (strs (bruteK f rest word k))) := own_below Hown2.out hb3 (Nat.le_refl _)
        clear Hsto Hown2 Hb2 hb3
        have hls : (ltr k).size = 1 := rfl
        have hss := Hsz.out
        have hgo := HIH.out w3 (some ⟨g1, 0, none⟩) c1 (rest.set k (x - 1)) (word ++ [(97 + k).toUInt8])
          (.inr ⟨g1, 0, rfl, (Hsto3.out.lt g1 rfl).2, fun i hi => by
            obtain ⟨g, hg, -, -, -, hcl, -⟩ := OwnInts.open Hsto3.out (by omega)
            obtain rfl : g1 = g := by simpa using hg
            rw [Nat.zero_add, hcl i hi, List.getD_eq_getElem?_getD, List.getElem?_eq_getElem hi]; rfl⟩)
          (by rw [List.length_set, Hn.out]; exact h4) ?hp1 ?hp2 (by simp; omega) (by simp; omega)
        case hp1 =>
          intro y hy
          rcases List.mem_or_eq_of_mem_set hy with h | h
          · exact HposM.out y h
          · omega
        case hp2 => rw [sum_set _ _ _ (by rw [Hn.out]; exact hlt), Hsum.out, Hxx.out]; push_cast; omega
        rw [List.length_set, Hn.out, ← bs_append, Hs.out] at hgo
        have Hgo := Lib.hid hgo
        clear hgo
        go_wp2_with fail
        refine Calls.mono (Hgo.out) ?_
        rintro e w4 ⟨v4, rfl, hown4, hb4⟩
        have hpow : ∀ j, j ≤ 8 → 4 ^ j ≤ 65536 := fun j hj => Nat.le_trans (Nat.pow_le_pow_right (by omega) hj) (by decide)
        have hm1 : m ≤ 65536 := by rw [Hm.out]; exact Nat.le_trans (bruteK_len f rest word k (by rw [Hn.out]; exact h4) (by omega)) (hpow _ (by omega))
        have hm2 : (brute f (rest.set k (x - 1)) (word ++ [(97 + k).toUInt8])).length ≤ 65536 := Nat.le_trans (brute_len f _ _ (by rw [List.length_set, Hn.out]; exact h4)) (hpow _ (by omega))
        have Hb4 := Lib.hid (Hb3.out.trans (hb4.mono Hb3.out.size))
        have Hown4 : Hid (w4.ownsRow w.heap.size 9 1 (.slice ao m co) m (strs (bruteK f rest word k))) := own_below Hown3.out hb4 (Nat.le_refl _)
        have hsz4 := Hb4.out.size
        have hbk := Hbk.out
        rw [if_neg hx0] at hbk
        generalize hbr : brute f (rest.set k (x - 1)) (word ++ [(97 + k).toUInt8]) = br at *
        have Hbk2 := Lib.hid hbk
        clear hbk Hbk hbr Hown3 Hsto3 Hb3 hb4 Hgo hpow
        rcases hown4.2 with ⟨rfl, h0⟩ | ⟨g4, cap4, cur4, rfl, -⟩
        · clear hown4
          have hbr0 : br = [] := List.eq_nil_of_length_eq_zero h0
          go_wp2_with (at_builtin; refine wpList_append_own_none rfl (.tmp 37) (.tmp 43) 40 rfl w.heap.size 9 _ 1 elStr.ht elStr.info.choose_spec.1 _ _ _ rfl Hown4.out rfl ?_)
          subst hbr0
          rw [List.append_nil] at Hbk2
          have Hm2 : Hid (m = (bruteK f rest word (k + 1)).length) := by show m = _; rw [Hbk2.out]; exact Hm.out
          go_roundw
          case rel => exact ⟨k + 1, m, co, ao, by omega, rfl, by rw [Hsk.out], rfl, Hm2, by show World.ownsRow ..; rw [Hbk2.out]; exact Hown4.out, Hb4⟩
          case measure => simp [intOf]; omega
        · go_wp2_with (at_builtin; refine wpList_append_at rfl (.tmp 37) (.tmp 43) 40 rfl elStr _ ⟨g4, 0, none⟩ br.length cap4 (strs br) rfl rfl Hown4.out (by omega) (by rw [strs_length]; simp) ?c0 ?c1 (by omega) (by omega) ?_)
          case c0 =>
            intro j u hj
            have hadd : (⟨g4, 0, none⟩ : Addr).add j = ⟨g4, j, none⟩ := by unfold Addr.add; split <;> simp_all
            have hjl : j < br.length := by
              have := (List.getElem?_eq_some_iff.1 hj).1
              rwa [strs_length] at this
            rw [hadd, hown4.cellAt j (by omega)]; exact hj
          case c1 =>
            intro u hu
            obtain ⟨y, _, rfl⟩ := List.mem_map.1 hu
            rfl
          intro v5 w5 hown5 hg5 _
          obtain ⟨a5, c5, rfl⟩ := own_form hown5
          have Hm2 : Hid (m + br.length = (bruteK f rest word (k + 1)).length) := by show _ = _; rw [Hbk2.out, List.length_append, Hm.out]
          have Hown5 : Hid (w5.ownsRow w.heap.size 9 1 (.slice a5 (m + br.length) c5) (m + br.length) (strs (bruteK f rest word (k + 1)))) := by
            show World.ownsRow ..
            rw [Hbk2.out, strs_append]; exact hown5
          have Hb5 : Hid (Below w.heap.size w w5) := Hb4.out.grown hg5 hsz4 (fun q hq => (Hown4.out.lt q hq).1)
          clear hown5 hg5 hown4 Hown4 Hb4
          go_wp2
          go_roundw
          case rel => exact ⟨k + 1, m + br.length, c5, a5, by omega, by go_num, by rw [Hsk.out], rfl, Hm2, Hown5, Hb5⟩
          case measure => simp [intOf]; omega
    · obtain rfl : k = n := by omega
      have hsk : sumK rest k = (f : Int) + 1 := by
        unfold sumK
        rw [List.take_of_length_le (by rw [Hn.out]; exact Nat.le_refl _), Hsum.out]; push_cast; rfl
      have hbf : brute (f + 1) rest word = bruteK f rest word k := by rw [brute_succ, Hn.out]
      rw [hsk]
      have hne : ((f : Int) + 1 == 0) = false := by rw [beq_eq_false_iff_ne]; omega
      have Hbf := Lib.hid hbf
      clear hsk hbf
      go_wp2
      go_ret
      refine ⟨_, rfl, ?_, Hb.out⟩
      rw [Hbf.out, ← Hm.out]
      exact Hown.out

set_option maxRecDepth 100000 in
set_option maxHeartbeats 4000000 in
theorem nk_zero : NkSaid 0 := by
  intro w a c rest word hr h4 hpos hsum hw8 hw1
  have Hr := Lib.hid hr
  have hz : ∀ k, k < rest.length → rest.getD k 0 = 0 := fun k hk => by
    have h1 := sumK_succ rest k hk
    have h2 := sumK_bound rest hpos k
    have h3 := sumK_bound rest hpos (k + 1)
    have h5 := getD_nonneg hpos k
    rw [hsum] at h2 h3
    omega
  have Hz := Lib.hid hz
  have hsz : (bs word).size = word.length := bs_size word
  clear hr hpos hsum hz
  generalize hn : rest.length = n at *
  have Hn := Lib.hid hn
  clear hn
  have hlb : lb (bs word) = word := lb_bs word
  generalize hs : bs word = s at *
  have Hs := Lib.hid hs
  have Hlb := Lib.hid hlb
  have h0 : 0 < s.size := by omega
  have h60 : s.size ≤ 60 := by omega
  clear hs hsz hlb
  go_enter Try.func19, Try.ntmps19
  go_wp2_with fail
  go_loopw [5, 6, 7] (fun o l i wr => ∃ k : Nat, k ≤ n ∧ i = .int .i64 k ∧ l = .int .i64 0 ∧ o = .slice none 0 0 ∧ Hid (Below w.heap.size w wr)) (fun _ _ i _ => n - (intOf i).toNat)
  case atStart => exact ⟨0, Nat.zero_le _, rfl, rfl, rfl, Below.refl _ _⟩
  case round =>
    obtain ⟨k, hk, rfl, rfl, rfl, Hb⟩ := hrel
    by_cases hlt : k < n
    · rcases Hr.out with hr | ⟨b, off, rfl, hb, hc⟩
      · have := Hn.out; rw [hr] at this; simp at this; omega
      have cx := hc k (by rw [Hn.out]; exact hlt)
      rw [← Hb.out.cell (p := ⟨b, off + k, none⟩) hb, Hz.out k hlt] at cx
      clear hc
      go_wp2
      go_roundw
      case rel => exact ⟨k + 1, by omega, by go_num, rfl, rfl, Hb⟩
      case measure => simp [intOf]; omega
    · obtain rfl : k = n := by omega
      go_wp2_with fail
      refine (lleast_any s _ h0 h60).mono ?_
      rintro e w1 ⟨rfl, hb1⟩
      have Hb1 := Lib.hid (Hb.out.trans (hb1.mono Hb.out.size))
      have hsz1 := Hb1.out.size
      clear hb1 Hb
      have hneck := least_neck s h0
      rw [Hlb.out] at hneck
      have hrot : lb (rot s (leastOf s)) = leastL s := by
        unfold leastL
        exact lb_rot s _ (leastAt_le s s.size)
      by_cases he : isNeck word
      · have e1 : rot s (leastOf s) = s := by
          rw [← bs_lb (rot s (leastOf s)), hrot, hneck.2 he, Hs.out]
        have hbf : brute 0 rest word = [word] := by unfold brute; rw [if_pos he]
        have Hbf := Lib.hid hbf
        have hq : (s.toList == s.toList) = true := by simp
        rw [e1]
        clear e1 hneck hrot hbf he
        go_wp2_with (at_builtin; refine wpList_append_new rfl (.tmp 55) (.tmp 57) 40 rfl elStr _ 1 [.string s] rfl rfl (World.ownsRow_nil w1 w.heap.size 9 1) hsz1 rfl ?c1 (by omega) (by omega) ?_)
        case c1 => intro u hu; simp at hu; subst hu; rfl
        intro v' w2 hown2 hg2 _
        have Hb2 : Hid (Below w.heap.size w w2) := (Hb1.out.alloc hsz1 _).grown hg2 (by simp; omega) (fun k hk => by simp [Value.ownBlock] at hk)
        obtain ⟨a2, c2, rfl⟩ := own_form hown2
        have Hown2 := Lib.hid hown2
        clear hown2 hg2
        go_wp2
        go_ret
        refine ⟨_, rfl, ?_, Hb2.out⟩
        rw [Hbf.out]
        have := Hown2.out
        rw [← Hs.out] at this
        exact this
      · have hq : ((rot s (leastOf s)).toList == s.toList) = false := by
          rw [toList_lb, toList_lb, beq_eq_false_iff_ne, hrot, Hlb.out]
          exact fun h => he (hneck.1 h)
        have hbf : brute 0 rest word = [] := by unfold brute; rw [if_neg he]
        have Hbf := Lib.hid hbf
        clear hneck hrot hbf he
        generalize rot s (leastOf s) = r at *
        go_wp2
        go_ret
        refine ⟨_, rfl, ?_, Hb1.out⟩
        rw [Hbf.out]
        exact World.ownsRow_nil ..

theorem nk_any : ∀ f, NkSaid f
  | 0 => nk_zero
  | f + 1 => nk_succ f (nk_any f)

end Go.Proofs.Ytgijighdalaemaa
