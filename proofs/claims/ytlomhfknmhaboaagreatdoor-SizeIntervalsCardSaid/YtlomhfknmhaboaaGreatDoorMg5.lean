/- For any list of at most 8 primes and any row of at most 10 elements, Zero, Equave and Of return the sizes, or the first error. No condition: the statement holds for every input. -/
import Derived.Test.YtlomhfknmhaboaaGreatDoorCards
import Derived.Test.YtlomhfknmhaboaaGreatDoorTie
import Derived.SevenTiedAt
import Derived.Test.YtlomhfknmhaboaaGreatDoorMg4
/- size.Text. -/
namespace Go.Proofs.YtlomhfknmhaboaaGreatDoor
open Go.RowKit

theorem infoStr : (Tryz.prog.info? 9).map (fun i => (i.zero, i.size, i.bytes)) = some (some (.string ⟨#[]⟩), 1, 16) := by kernel_rfl
theorem elStr : ElemOf Tryz.prog 127 9 (.string ⟨#[]⟩) 1 16 := ⟨Tryz.underlying127, info_parts infoStr, rfl, by decide⟩

theorem quiet_eqlQ {C : World → Prop} {K : Act → Prop} {a : Act} {o : Oper} (x y : Operand) (r : TypeId) (p q : Rat) (h : o.op = .binOp .eql 30 x y r) (hx : a.eval x = .agg #[.string (itx p.num), .string (dec p.den)]) (hy : a.eval y = .agg #[.string (itx q.num), .string (dec q.den)])
    (hk : K (a.put o.dst (.bool (decide (p = q))))) : o.quiet Tryz.prog a C K :=
  ⟨_, fun w _ => by
    unfold Oper.quietAt execOp
    rw [h]
    simp only [Sem.run_bind, hx, hy, guardQ_run, eqlQ_run, Result.andThen_ok, Sem.run_pure, qs_beq]
    exact ⟨rfl, rfl⟩, hk⟩

theorem numberR_regrown (w : World) (z : Int) (q1 : -9223372036854775808 ≤ z) (q2 : z ≤ 9223372036854775807) (L : Laid w) :
    ∀ d os, Calls Tryz.prog 65 #[.int .i64 z] (Go.Sort.grow (redrawn w d) os) fun e w'' => e = .returned (fr (z : Rat)) ∧ ∃ p : Regrown, w'' = Go.Sort.grow (redrawn w p.d) p.os := fun d os =>
  Calls.regrown_of (numberR _ z q1 q2 (L.below (below_regrown w d os)))

theorem join_le (xs : List ByteArray) (sep : List UInt8) (B : Nat) (h : ∀ x ∈ xs, x.size ≤ B) : (Lib.join (xs.map (·.data.toList)) sep).length ≤ xs.length * (B + sep.length) := by
  have hl : ∀ ys : List ByteArray, (∀ x ∈ ys, x.size ≤ B) → Lib.lens (ys.map (·.data.toList)) ≤ ys.length * B := by
    intro ys
    induction ys with
    | nil => intro _; simp [Lib.lens]
    | cons y ys ih =>
      intro hy
      have h1 := ih fun x hx => hy x (List.mem_cons_of_mem _ hx)
      have h2 : y.data.toList.length ≤ B := hy y List.mem_cons_self
      have e : Lib.lens ((y :: ys).map (·.data.toList)) = y.data.toList.length + Lib.lens (ys.map (·.data.toList)) := by simp [Lib.lens]
      rw [e, List.length_cons, Nat.add_mul]
      omega
  cases xs with
  | nil => simp [Lib.join_nil]
  | cons x r =>
    have h1 := hl (x :: r) h
    rw [List.map_cons] at h1
    rw [List.map_cons, Lib.join_length, List.length_map, List.length_cons, Nat.mul_add, Nat.add_mul r.length 1 sep.length, Nat.mul_comm r.length]
    rw [List.length_cons] at h1
    omega

theorem txQ_size0 {q : Rat} (h2 : Sm 30 q) : (txQ q).size ≤ 62 := by
  have c2 := itx_size q.num 30 (by decide) h2.1
  have c3 := (size_lt q.den 30 (by decide)).2 h2.2
  unfold txQ
  split
  · omega
  · rw [ByteArray.size_append, ByteArray.size_append]
    have : (ByteArray.mk #[47]).size = 1 := rfl
    omega
theorem txQ_size {q : Rat} (h2 : Sm 30 q) : (txQ q).size ≤ 100 := Nat.le_trans (txQ_size0 h2) (by decide)

theorem txL_size {ps : List Int} {l : List Rat} (hp : ∀ p ∈ ps, 2 ≤ p ∧ p ≤ 97) (hl : ∀ q ∈ l, Sm 30 q) : ∀ s ∈ txL ps l, s.size ≤ 100 := by
  intro s hs
  unfold txL at hs
  obtain ⟨⟨p, q⟩, hx, he⟩ := List.mem_filterMap.1 hs
  have h1 := hp p (List.of_mem_zip hx).1
  have h2 := hl q (List.of_mem_zip hx).2
  have c1 := itx_size p 2 (by decide) (by omega)
  have c2 := itx_size q.num 30 (by decide) h2.1
  have c3 := (size_lt q.den 30 (by decide)).2 h2.2
  have c4 := txQ_size0 h2
  have e1 : (ByteArray.mk #[94]).size = 1 := rfl
  have e2 : (ByteArray.mk #[94, 40]).size = 2 := rfl
  have e3 : (ByteArray.mk #[41]).size = 1 := rfl
  simp only at he
  split at he
  · cases he
  · injection he with he
    subst he
    unfold txP
    split
    · omega
    · split
      · rw [ByteArray.size_append, ByteArray.size_append]; omega
      · rw [ByteArray.size_append, ByteArray.size_append, ByteArray.size_append]; omega

theorem itoa_any (w : World) (z : Int) (h0 : -9223372036854775808 ≤ z) (h1 : z ≤ 9223372036854775807) (L : Laid w) : Gives Tryz.prog 89 #[.int .i64 z] w (.string (itx z)) := by
  refine (Tryz.strconv_Itoa z h0 h1 w L.tab).mono ?_
  rintro e w1 ⟨rfl, hw⟩
  exact ⟨rfl, below_of_grow hw⟩

set_option maxRecDepth 100000 in
set_option maxHeartbeats 16000000 in
theorem text_ok (w : World) (ps : List Int) (a0 a1 : Option Addr) (c0 c1 : Nat) (l : List Rat) (A : SizeOk w ps a0 a1 l 30) (hp : pcode ps = 0) (hps : ps.length ≤ 100) (L : Laid w) :
    Gives Tryz.prog 45 #[.slice a0 ps.length c0, .slice a1 l.length c1] w (.tuple #[.string (txS ps l), .int .i64 0]) := by
  unfold Gives
  have HA := Lib.hid A
  have HL := Lib.hid L
  have hc : ccode ps (l.map qs) = 0 := by unfold ccode; rw [if_pos hp, scode_ok A.sm A.len]
  have hk := sizeCheck_any w a0 a1 c0 c1 ps (l.map qs) A.rp A.i64 (by omega) A.rl (by rw [List.length_map, A.len]; omega) (ssz_ok A.sm) L
  rw [hc, List.length_map, A.len] at hk
  rw [A.len]
  have Hk := Lib.hid hk
  have Hpl : Hid (l.length = ps.length) := A.len
  have Hrp := Lib.hid A.rp
  have Hrl := Lib.hid A.rl
  have Hv : Hid (txS ps l = if (txL ps l).length = 0 then ⟨#[49]⟩ else ⟨(Lib.join ((txL ps l).map (·.data.toList)) [32]).toArray⟩) := Lib.hid rfl
  generalize txS ps l = vv at *
  clear A L hc hk hp
  generalize hn : ps.length = n at *
  have Hn := Lib.hid hn
  clear hn
  go_enter Tryz.func45, Tryz.ntmps45
  go_wp2_with fail
  refine Calls.mono Hk.out ?_
  rintro e w1 ⟨rfl, hb⟩
  have B1 := Lib.hid hb
  clear hb Hk
  go_wp2_with fail
  go_loopw [7, 19] (fun o i wr => ∃ (k : Nat) (b : Option Addr) (d : Nat), k ≤ n ∧ i = .int .i64 k ∧ o = .slice b (txL (ps.take k) (l.take k)).length d ∧ Hid (wr.ownsRow w.heap.size 9 1 (.slice b (txL (ps.take k) (l.take k)).length d) (txL (ps.take k) (l.take k)).length (strs (txL (ps.take k) (l.take k)))) ∧ Hid (Below w.heap.size w wr)) (fun _ i _ => n - (intOf i).toNat)
  case atStart => exact ⟨0, none, 0, Nat.zero_le _, rfl, rfl, World.ownsRow_nil .., B1⟩
  case round =>
    clear B1
    obtain ⟨k, b, d, hk, rfl, rfl, OWN, B⟩ := hrel
    by_cases hlt : k < n
    · have hlt' : (k : Int) < n := by omega
      have hkp : k < ps.length := by rw [Hn.out]; exact hlt
      have hkl : k < l.length := by rw [Hpl.out]; exact hlt
      obtain ⟨bb, off, rfl, hb, hcells⟩ := Hrl.out.open (by rw [cellsQ_length]; omega)
      obtain ⟨x0, x1⟩ := cellsS_rd hcells k (by rw [List.length_map]; exact hkl)
      rw [← B.out.cell (p := ⟨bb, off + k * 2, none⟩) hb, qs_getD _ k hkl] at x0
      rw [← B.out.cell (p := ⟨bb, off + k * 2 + 1, none⟩) hb, qs_getD _ k hkl] at x1
      obtain ⟨bp, op, rfl, hbp, hcp⟩ := Hrp.out.open (by rw [ints_length]; omega)
      have Hcp : Hid (w.cell? ⟨bp, op + k, none⟩ = some (.int .i64 ps[k])) := hcp k _ (ints_get ps k hkp)
      have Hsucc := Lib.hid (txL_succ ps l k hkp hkl)
      have hsm := HA.out.sm _ (List.getElem_mem hkl)
      have hpr := HA.out.pr _ (List.getElem_mem hkp)
      have Hit : Hid (∀ W, Below w.heap.size w W → Gives Tryz.prog 89 #[.int .i64 ps[k]] W (.string (itx ps[k]))) := fun W hW => itoa_any W _ (by omega) (by omega) (HL.out.below hW)
      have Htx : Hid (∀ W : World, Gives Tryz.prog 90 #[fr l[k]] W (.string (txQ l[k]))) := fun W => textR W l[k] (hsm.le (by decide))
      have Hnum : Hid (∀ W, Below w.heap.size w W → ∀ d os, Calls Tryz.prog 65 #[.int .i64 1] (Go.Sort.grow (redrawn W d) os) fun e w'' => e = .returned (fr (1 : Rat)) ∧ ∃ p : Regrown, w'' = Go.Sort.grow (redrawn W p.d) p.os) := fun W hW => numberR_regrown W 1 (by decide) (by decide) (HL.out.below hW)
      have Hsg : Hid (∀ W : World, Gives Tryz.prog 54 #[.string (itx l[k].num)] W (.int .i64 l[k].num.sign)) := fun W => sign_any W _
      have hz := itx_isz l[k].num
      have ho := is_one l[k].den
      have hs1 : (itx ps[k]).size ≤ 100 := by have := itx_size ps[k] 2 (by decide) (by omega); omega
      have hs2 : (txQ l[k]).size ≤ 100 := txQ_size hsm
      clear hcells hcp hsm
      generalize hq : l[k] = q at *
      generalize ps[k] = p at *
      unfold txP at Hsucc
      unfold fr fv at Htx Hnum
      clear hq
      simp only [qs] at x0 x1
      generalize txQ q = tx at *
      have B0 := Lib.hid (B.out.alloc B.out.size (.cells #[.string (itx q.num), .string (dec q.den)] 30))
      have Hwr := Lib.hid ((Below.refl wr.heap.size wr).alloc (Nat.le_refl _) (.cells #[.string (itx q.num), .string (dec q.den)] 30))
      have N0 := Lib.hid (heap_at wr #[.string (itx q.num), .string (dec q.den)] 30 _ rfl)
      have OWN0 := Lib.hid (own_below OWN.out Hwr.out (Nat.le_refl _))
      have Hcp0 := (B0.out.cell (p := ⟨bp, op + k, none⟩) hbp).trans Hcp.out
      have H0 := Lib.hid (show ((0 : Int) ≤ k ∧ (k : Int) < n) from ⟨by omega, hlt'⟩)
      go_wp2_with fail
      generalize wr.alloc (.cells #[.string (itx q.num), .string (dec q.den)] 30) = W0 at *
      clear x0 x1 OWN B Hwr
      refine Calls.mono (Hit.out _ B0.out) ?_
      rintro e w2 ⟨rfl, hb2⟩
      have B2 := Lib.hid (B0.out.trans (hb2.mono B0.out.size))
      have N2 := Lib.hid (heap_kept N0.out hb2 (Nat.le_refl _))
      have OWN2 := Lib.hid (own_below OWN0.out hb2 (Nat.le_refl _))
      clear hb2 Hit N0 OWN0 B0 Hcp0
      obtain ⟨k0, k1, -, -⟩ := two_cells N2.out
      by_cases hq0 : q.num = 0
      · rw [decide_eq_true hq0] at hz
        rw [if_pos hq0, List.append_nil] at Hsucc
        clear hq0
        go_wp2_with fail
        go_roundw
        case rel => exact ⟨k + 1, b, d, by omega, by go_num, by rw [Hsucc.out], by rw [Hsucc.out]; exact OWN2, B2⟩
        case measure => simp [intOf]; omega
      · rw [decide_eq_false hq0] at hz
        rw [if_neg hq0] at Hsucc
        clear hq0
        have q0 := cell_regrown k0
        have q1 := cell_regrown k1
        have hN := Hnum.out _ B2.out
        go_wp2_with fail
        clear k0 k1 Hnum
        refine wp_region_quiet_below (by kernel_rfl) (by kernel_rfl) ?_
        repeat (first | go_big_quiet_step (with_reducible exact hN _ _) | quiet_step (with_reducible exact hN _ _))
        refine BigFrame.wpQuiet_want rfl fun K hK => quiet_eqlQ _ _ _ q 1 rfl rfl rfl (hK _ ?_)
        repeat (first | go_big_quiet_step (with_reducible exact hN _ _) | quiet_step (with_reducible exact hN _ _))
        refine wpQuiet_nil ?_
        intro w3 hw3
        obtain ⟨⟨dq, osq⟩, rfl⟩ := hw3
        have W3 := Lib.hid (below_regrown w2 dq osq)
        have B3 := Lib.hid (B2.out.trans (W3.out.mono B2.out.size))
        have N3 := Lib.hid (heap_kept N2.out W3.out (Nat.le_refl _))
        have OWN3 := Lib.hid (own_below OWN2.out W3.out (Nat.le_refl _))
        clear W3 hN q0 q1 N2 OWN2 B2
        generalize Go.Sort.grow (redrawn w2 dq) osq = w3 at *
        obtain ⟨k0, k1, -, -⟩ := two_cells N3.out
        by_cases hq1 : q = 1
        · rw [decide_eq_true hq1]
          rw [if_pos hq1] at Hsucc
          clear hq1
          have Hlen := Lib.hid (txL_length (ps.take k) (l.take k))
          have hLk : (txL (ps.take k) (l.take k)).length ≤ k := by have := Hlen.out; rw [List.length_take] at this; omega
          go_wp2_with (at_builtin; refine wpList_append_one rfl (.tmp 58) (.tmp 60) 127 rfl elStr _ (.string _) rfl rfl OWN3.out B3.out.size rfl (by omega) (by omega) ?_)
          intro v' w9 hown9 hg9 hat9
          have Hb9 : Hid (Below w.heap.size w w9) := (B3.out.alloc B3.out.size _).grown hg9 (by simp; have := B3.out.size; omega) (fun k hk => (OWN3.out.lt k hk).1)
          obtain ⟨b9, d9, rfl⟩ := own_form hown9
          have Hown9 := Lib.hid hown9
          clear hown9 hg9 hat9
          go_wp2_with fail
          go_roundw
          case rel =>
            refine ⟨k + 1, b9, d9, by omega, by go_num, ?_, ?_, Hb9⟩
            · rw [Hsucc.out, List.length_append]; rfl
            · show World.ownsRow ..
              rw [Hsucc.out, strs_append, List.length_append]
              exact Hown9.out
          case measure => simp [intOf]; omega
        · rw [decide_eq_false hq1]
          rw [if_neg hq1] at Hsucc
          clear hq1
          by_cases hd : q.den = 1
          · rw [decide_eq_true hd] at ho
            have Hd := Lib.hid hd
            clear hd
            go_wp2_with fail
            refine Calls.mono (Hsg.out _) ?_
            rintro e w4 ⟨rfl, hb4⟩
            have B4 := Lib.hid (B3.out.trans (hb4.mono B3.out.size))
            have N4 := Lib.hid (heap_kept N3.out hb4 (Nat.le_refl _))
            have OWN4 := Lib.hid (own_below OWN3.out hb4 (Nat.le_refl _))
            clear hb4 N3 OWN3 B3 Hsg k0 k1
            obtain ⟨k0, k1, -, -⟩ := two_cells N4.out
            by_cases hp0 : 0 < q.num
            · rw [if_pos ⟨Hd.out, hp0⟩] at Hsucc
              rw [Int.sign_eq_one_of_pos hp0]
              clear hp0 Hd
              go_wp2_with fail
              refine Calls.mono (Htx.out _) ?_
              rintro e w5 ⟨rfl, hb5⟩
              have B5 := Lib.hid (B4.out.trans (hb5.mono B4.out.size))
              have OWN5 := Lib.hid (own_below OWN4.out hb5 (Nat.le_refl _))
              clear hb5 N4 OWN4 B4 Htx k0 k1
              have Hlen := Lib.hid (txL_length (ps.take k) (l.take k))
              have hLk : (txL (ps.take k) (l.take k)).length ≤ k := by have := Hlen.out; rw [List.length_take] at this; omega
              go_wp2_with (at_builtin; refine wpList_append_one rfl (.tmp 58) (.tmp 60) 127 rfl elStr _ (.string _) rfl rfl OWN5.out B5.out.size rfl (by omega) (by omega) ?_)
              intro v' w9 hown9 hg9 hat9
              have Hb9 : Hid (Below w.heap.size w w9) := (B5.out.alloc B5.out.size _).grown hg9 (by simp; have := B5.out.size; omega) (fun k hk => (OWN5.out.lt k hk).1)
              obtain ⟨b9, d9, rfl⟩ := own_form hown9
              have Hown9 := Lib.hid hown9
              clear hown9 hg9 hat9
              go_wp2_with fail
              go_roundw
              case rel =>
                refine ⟨k + 1, b9, d9, by omega, by go_num, ?_, ?_, Hb9⟩
                · rw [Hsucc.out, List.length_append]; rfl
                · show World.ownsRow ..
                  rw [Hsucc.out, strs_append, List.length_append]
                  exact Hown9.out
              case measure => simp [intOf]; omega
            · rw [if_neg (fun h => hp0 h.2)] at Hsucc
              have hsg : ¬ q.num.sign > 0 := by
                intro h
                exact hp0 (Int.sign_pos_iff.1 h)
              generalize q.num.sign = sg at *
              clear hp0 Hd
              go_wp2_with fail
              refine Calls.mono (Htx.out _) ?_
              rintro e w5 ⟨rfl, hb5⟩
              have B5 := Lib.hid (B4.out.trans (hb5.mono B4.out.size))
              have OWN5 := Lib.hid (own_below OWN4.out hb5 (Nat.le_refl _))
              clear hb5 N4 OWN4 B4 Htx k0 k1
              have Hlen := Lib.hid (txL_length (ps.take k) (l.take k))
              have hLk : (txL (ps.take k) (l.take k)).length ≤ k := by have := Hlen.out; rw [List.length_take] at this; omega
              go_wp2_with (at_builtin; refine wpList_append_one rfl (.tmp 58) (.tmp 60) 127 rfl elStr _ (.string _) rfl rfl OWN5.out B5.out.size rfl (by omega) (by omega) ?_)
              intro v' w9 hown9 hg9 hat9
              have Hb9 : Hid (Below w.heap.size w w9) := (B5.out.alloc B5.out.size _).grown hg9 (by simp; have := B5.out.size; omega) (fun k hk => (OWN5.out.lt k hk).1)
              obtain ⟨b9, d9, rfl⟩ := own_form hown9
              have Hown9 := Lib.hid hown9
              clear hown9 hg9 hat9
              go_wp2_with fail
              go_roundw
              case rel =>
                refine ⟨k + 1, b9, d9, by omega, by go_num, ?_, ?_, Hb9⟩
                · rw [Hsucc.out, List.length_append]; rfl
                · show World.ownsRow ..
                  rw [Hsucc.out, strs_append, List.length_append]
                  exact Hown9.out
              case measure => simp [intOf]; omega
          · rw [decide_eq_false hd] at ho
            rw [if_neg (fun h => hd h.1)] at Hsucc
            clear hd
            go_wp2_with fail
            refine Calls.mono (Htx.out _) ?_
            rintro e w5 ⟨rfl, hb5⟩
            have B5 := Lib.hid (B3.out.trans (hb5.mono B3.out.size))
            have OWN5 := Lib.hid (own_below OWN3.out hb5 (Nat.le_refl _))
            clear hb5 N3 OWN3 B3 Htx k0 k1
            have Hlen := Lib.hid (txL_length (ps.take k) (l.take k))
            have hLk : (txL (ps.take k) (l.take k)).length ≤ k := by have := Hlen.out; rw [List.length_take] at this; omega
            go_wp2_with (at_builtin; refine wpList_append_one rfl (.tmp 58) (.tmp 60) 127 rfl elStr _ (.string _) rfl rfl OWN5.out B5.out.size rfl (by omega) (by omega) ?_)
            intro v' w9 hown9 hg9 hat9
            have Hb9 : Hid (Below w.heap.size w w9) := (B5.out.alloc B5.out.size _).grown hg9 (by simp; have := B5.out.size; omega) (fun k hk => (OWN5.out.lt k hk).1)
            obtain ⟨b9, d9, rfl⟩ := own_form hown9
            have Hown9 := Lib.hid hown9
            clear hown9 hg9 hat9
            go_wp2_with fail
            go_roundw
            case rel =>
              refine ⟨k + 1, b9, d9, by omega, by go_num, ?_, ?_, Hb9⟩
              · rw [Hsucc.out, List.length_append]; rfl
              · show World.ownsRow ..
                rw [Hsucc.out, strs_append, List.length_append]
                exact Hown9.out
            case measure => simp [intOf]; omega
    · have hlt' : ¬ (k : Int) < n := by omega
      have hkn : k = n := by omega
      subst hkn
      rw [show ps.take k = ps by rw [← Hn.out, List.take_length], show l.take k = l by rw [← Hpl.out, List.take_length]] at OWN ⊢
      have Hll := Lib.hid (txL_length ps l)
      have Hjl : Hid ((Lib.join ((txL ps l).map (·.data.toList)) [32]).length ≤ (txL ps l).length * 101) := join_le (txL ps l) [32] 100 (txL_size HA.out.pr HA.out.sm)
      generalize hx : txL ps l = xs at *
      clear hx
      by_cases h0 : xs.length = 0
      · rw [if_pos h0] at Hv
        have h0' : ((xs.length : Int) == 0) = true := by rw [h0]; rfl
        clear h0
        go_wp2_with fail
        go_ret2
        exact ⟨by rw [Hv.out]; rfl, B.out⟩
      · rw [if_neg h0] at Hv
        have h0' : ((xs.length : Int) == 0) = false := by rw [beq_eq_false_iff_ne]; omega
        obtain ⟨g, cap, hv, h1, h2, h3, h4, h5⟩ := own_open OWN.out (by omega)
        simp only [Value.slice.injEq] at hv
        obtain ⟨rfl, -, rfl⟩ := hv
        have Hj : Hid (Calls Tryz.prog 91 #[.slice (some ⟨g, 0, none⟩) xs.length d, .string ⟨#[32]⟩] wr fun e w' => e = .returned (.string ⟨(Lib.join (xs.map (·.data.toList)) [32]).toArray⟩) ∧ Below wr.heap.size wr w') := by
          have hlen := Hll.out
          exact Go.Proofs.Any.strings_Join laysJ extraJ g 0 d xs ⟨#[32]⟩ wr (by
            intro j x hj
            have hjl := (List.getElem?_eq_some_iff.1 hj).1
            rw [Nat.zero_add, h4 j (by omega)]
            simp [strs, hj]) h2 (by rw [Hpl.out] at hlen; omega) h3 (by show (Lib.join (xs.map (·.data.toList)) [32]).length ≤ _; rw [Hpl.out] at hlen; have := Hjl.out; omega)
        clear h0 h4 h5 h3
        go_wp2_with fail
        refine Calls.mono Hj.out ?_
        rintro e w9 ⟨rfl, hb⟩
        have B9 := Lib.hid (B.out.trans (hb.mono B.out.size))
        clear hb Hj
        go_wp2_with fail
        go_ret2
        exact ⟨by rw [Hv.out]; rfl, B9.out⟩

end Go.Proofs.YtlomhfknmhaboaaGreatDoor

/- The known example of layer 13: what its calls return. -/
namespace Go.Proofs.YtlomhfknmhaboaaGreatDoor
open Go.RowKit

theorem num_small (n : Nat) (h : n ≤ 100000000000000000000) : Num n := num_pow (D := 21) (by omega) (by decide) (by decide)

theorem partR (w : World) (n : Int) (d : Nat) (q1 : -9223372036854775808 ≤ n) (q2 : n ≤ 9223372036854775807) (q3 : 0 < d) (q4 : d ≤ 1000000) (L : Laid w) :
    Gives Tryz.prog 18 #[.int .i64 n, .int .i64 d] w (fr (mkRat n d)) :=
  part_of w n d _ fun W hW => by
    have := ofi_frac W n d q1 q2 (by omega) (num_small _ (by omega)) (num_small _ (by omega)) q3 (num_small _ (by omega)) (num_small _ (by omega)) (L.below hW)
    rw [redV_rat n d (by omega)] at this
    exact this

theorem sizeOk_of (W : World) (ps : List Int) (A0 A1 : Option Addr) (l : List Rat) (D : Nat) (hl : l.length = ps.length) (hn : ps.length ≤ 100) (hp : ∀ p ∈ ps, 2 ≤ p ∧ p ≤ 97) (hd : D ≤ 1000) (h0 : Rd W A0 (ints ps)) (h1 : Rd W A1 (cellsQ l)) (hs : ∀ q ∈ l, Sm D q) : SizeOk W ps A0 A1 l D :=
  ⟨h0, h1, hl, hn, hp, hs, hd⟩

instance (D : Nat) (q : Rat) : Decidable (Sm D q) := by unfold Sm; infer_instance

def kq (n : Int) (d : Nat) : Rat := mkRat n d
def kComma : List Rat := [kq (-4) 1, kq 4 1, kq (-1) 1]
def kFifth : List Rat := [kq (-1) 1, kq 1 1, kq 0 1]
def kOctave : List Rat := [kq 1 1, kq 0 1, kq 0 1]
def kQuarter : List Rat := [kq 0 1, kq 0 1, kq 1 4]
def kLast : List Rat := [kq 1 2, kq (-1) 4, kq 1 1]
def kTwelve : List Rat := sumQ 3 [kFifth] [kq 12 1]

def sm30 (l : List Rat) : Bool := l.all fun q => decide (Sm 30 q)
theorem sm30_of {l : List Rat} (h : sm30 l = true) : ∀ q ∈ l, Sm 30 q := fun q hq => of_decide_eq_true (List.all_eq_true.1 h q hq)

theorem kp0 : pcode [2, 3, 5] = 0 := by decide +kernel
theorem kps : ∀ p ∈ [(2 : Int), 3, 5], 2 ≤ p ∧ p ≤ 97 := by decide

theorem kOk (W : World) (A0 A1 : Option Addr) (l : List Rat) (hl : l.length = 3) (h0 : Rd W A0 (ints [2, 3, 5])) (h1 : Rd W A1 (cellsQ l)) (hs : sm30 l = true) : SizeOk W [2, 3, 5] A0 A1 l 30 :=
  sizeOk_of W _ A0 A1 l 30 hl (by decide) kps (by decide) h0 h1 (sm30_of hs)

theorem kCompare (W : World) (A0 A1 A2 : Option Addr) (h0 : Rd W A0 (ints [2, 3, 5])) (h1 : Rd W A1 (cellsQ kQuarter)) (h2 : Rd W A2 (cellsQ kFifth)) (L : Laid W) :
    Gives Tryz.prog 21 #[.slice A0 3 3, .slice A1 3 3, .slice A2 3 3] W (.tuple #[.int .i64 (-1), .int .i64 0]) := by
  have := Compare_quick W [2, 3, 5] A0 A1 A2 3 3 3 kQuarter kFifth (kOk W A0 A1 _ rfl h0 h1 (by decide +kernel)) (kOk W A0 A2 _ rfl h0 h2 (by decide +kernel)) kp0 L (.inr (by decide +kernel))
  rw [show sgnQ [2, 3, 5] (sumQ ([2, 3, 5] : List Int).length [kQuarter, kFifth] [1, -1]) = -1 by decide +kernel] at this
  exact this

theorem kFloor (W : World) (A0 A1 A2 : Option Addr) (h0 : Rd W A0 (ints [2, 3, 5])) (h1 : Rd W A1 (cellsQ kOctave)) (h2 : Rd W A2 (cellsQ kComma)) (L : Laid W) :
    Gives Tryz.prog 30 #[.slice A0 3 3, .slice A1 3 3, .slice A2 3 3] W (.tuple #[.string (itx 55), .int .i64 0]) := by
  refine Floor_of W [2, 3, 5] A0 A1 A2 3 3 3 kOctave kComma (kOk W A0 A1 _ rfl h0 h1 (by decide +kernel)) (kOk W A0 A2 _ rfl h0 h2 (by decide +kernel)) kp0 L (by decide +kernel) 55 fun W' hW => ?_
  exact floor_quick W' [2, 3, 5] A0 A1 A2 3 3 3 30 kOctave kComma ((kOk W A0 A1 _ rfl h0 h1 (by decide +kernel)).below hW) ((kOk W A0 A2 _ rfl h0 h2 (by decide +kernel)).below hW) (by decide) (L.below hW)
    (by decide +kernel) (by decide +kernel) (by decide +kernel) (by decide +kernel) (by decide +kernel) (by decide +kernel) (by decide +kernel) (by decide +kernel) (by decide +kernel) (by decide +kernel) (by decide +kernel) (by decide +kernel) (by decide +kernel) 55 (by decide +kernel) (by decide +kernel) (by decide)

theorem kScale (W : World) (A0 A1 : Option Addr) (h0 : Rd W A0 (ints [2, 3, 5])) (h1 : Rd W A1 (cellsQ kFifth)) (L : Laid W) :
    Calls Tryz.prog 23 #[.slice A0 3 3, .slice A1 3 3, fr (kq 12 1)] W fun e w' => ∃ a c, e = .returned (.tuple #[.slice a 3 c, .int .i64 0]) ∧ Rd w' a (cellsQ kTwelve) ∧ Below W.heap.size W w' :=
  scale_ok W [2, 3, 5] A0 A1 3 3 kFifth (kq 12 1) (kOk W A0 A1 _ rfl h0 h1 (by decide +kernel)) kp0 L (by decide +kernel) (sm30_of (by decide +kernel))

theorem kRound (W : World) (A0 A1 A2 : Option Addr) (c : Nat) (h0 : Rd W A0 (ints [2, 3, 5])) (h1 : Rd W A1 (cellsQ kTwelve)) (h2 : Rd W A2 (cellsQ kOctave)) (L : Laid W) :
    Gives Tryz.prog 31 #[.slice A0 3 3, .slice A1 3 c, .slice A2 3 3] W (.tuple #[.string (itx 7), .int .i64 0]) := by
  refine Round_of W [2, 3, 5] A0 A1 A2 3 c 3 kTwelve kOctave (kOk W A0 A1 _ (by decide +kernel) h0 h1 (by decide +kernel)) (kOk W A0 A2 _ rfl h0 h2 (by decide +kernel)) kp0 L (by decide +kernel) 7 fun W' a3 a4 c3 c4 X Y L' => ?_
  exact floor_quick W' [2, 3, 5] A0 a3 a4 3 c3 c4 _ _ _ X Y (by decide) L'
    (by decide +kernel) (by decide +kernel) (by decide +kernel) (by decide +kernel) (by decide +kernel) (by decide +kernel) (by decide +kernel) (by decide +kernel) (by decide +kernel) (by decide +kernel) (by decide +kernel) (by decide +kernel) (by decide +kernel) 7 (by decide +kernel) (by decide +kernel) (by decide)

theorem kText (W : World) (A0 A1 : Option Addr) (h0 : Rd W A0 (ints [2, 3, 5])) (h1 : Rd W A1 (cellsQ kLast)) (L : Laid W) :
    Gives Tryz.prog 45 #[.slice A0 3 3, .slice A1 3 3] W (.tuple #[.string ⟨#[50, 94, 40, 49, 47, 50, 41, 32, 51, 94, 40, 45, 49, 47, 52, 41, 32, 53]⟩, .int .i64 0]) := by
  have := text_ok W [2, 3, 5] A0 A1 3 3 kLast (kOk W A0 A1 _ rfl h0 h1 (by decide +kernel)) kp0 (by decide) L
  rw [show txS [2, 3, 5] kLast = ⟨#[50, 94, 40, 49, 47, 50, 41, 32, 51, 94, 40, 45, 49, 47, 52, 41, 32, 53]⟩ by decide +kernel] at this
  exact this

end Go.Proofs.YtlomhfknmhaboaaGreatDoor

/- The known example of layer 13 is right. -/
namespace Go.Proofs.YtlomhfknmhaboaaGreatDoor
open Go.RowKit

theorem k55 : ((itx 55).toList == [53, 53]) = true := by decide +kernel
theorem k7 : ((itx 7).toList == [55]) = true := by decide +kernel
theorem rd_ints {w : World} {g : Nat} {l : List Int} {t : TypeId} (h : w.heap[g]? = some (.cells (ints l).toArray t (0, 0))) : Rd w (some ⟨g, 0, none⟩) (ints l) := by
  have := rd_obj h
  simpa using this

set_option maxRecDepth 100000 in
set_option maxHeartbeats 16000000 in
theorem known_ok (w : World) (L : Laid w) : Gives Tryz.prog 12 #[] w (.bool true) := by
  unfold Gives
  have HL := Lib.hid L
  have B0 := Lib.hid (Below.refl w.heap.size w)
  obtain ⟨a, ha⟩ : ∃ x : Rat, x = kq (-4) 1 := ⟨_, rfl⟩
  obtain ⟨b, hb⟩ : ∃ x : Rat, x = kq 4 1 := ⟨_, rfl⟩
  obtain ⟨c, hc⟩ : ∃ x : Rat, x = kq (-1) 1 := ⟨_, rfl⟩
  obtain ⟨e, he⟩ : ∃ x : Rat, x = kq 1 1 := ⟨_, rfl⟩
  obtain ⟨z, hz⟩ : ∃ x : Rat, x = kq 0 1 := ⟨_, rfl⟩
  obtain ⟨q, hq⟩ : ∃ x : Rat, x = kq 1 4 := ⟨_, rfl⟩
  obtain ⟨t, ht⟩ : ∃ x : Rat, x = kq 12 1 := ⟨_, rfl⟩
  obtain ⟨h, hh⟩ : ∃ x : Rat, x = kq 1 2 := ⟨_, rfl⟩
  obtain ⟨m, hm⟩ : ∃ x : Rat, x = kq (-1) 4 := ⟨_, rfl⟩
  have Pa : Hid (∀ W, Below w.heap.size w W → Gives Tryz.prog 18 #[.int .i64 (-4), .int .i64 1] W (fr a)) := fun W hW => by subst ha; exact partR W (-4) 1 (by decide) (by decide) (by decide) (by decide) (L.below hW)
  have Pb : Hid (∀ W, Below w.heap.size w W → Gives Tryz.prog 18 #[.int .i64 4, .int .i64 1] W (fr b)) := fun W hW => by subst hb; exact partR W 4 1 (by decide) (by decide) (by decide) (by decide) (L.below hW)
  have Pc : Hid (∀ W, Below w.heap.size w W → Gives Tryz.prog 18 #[.int .i64 (-1), .int .i64 1] W (fr c)) := fun W hW => by subst hc; exact partR W (-1) 1 (by decide) (by decide) (by decide) (by decide) (L.below hW)
  have Pe : Hid (∀ W, Below w.heap.size w W → Gives Tryz.prog 18 #[.int .i64 1, .int .i64 1] W (fr e)) := fun W hW => by subst he; exact partR W 1 1 (by decide) (by decide) (by decide) (by decide) (L.below hW)
  have Pz : Hid (∀ W, Below w.heap.size w W → Gives Tryz.prog 18 #[.int .i64 0, .int .i64 1] W (fr z)) := fun W hW => by subst hz; exact partR W 0 1 (by decide) (by decide) (by decide) (by decide) (L.below hW)
  have Pq : Hid (∀ W, Below w.heap.size w W → Gives Tryz.prog 18 #[.int .i64 1, .int .i64 4] W (fr q)) := fun W hW => by subst hq; exact partR W 1 4 (by decide) (by decide) (by decide) (by decide) (L.below hW)
  have Pt : Hid (∀ W, Below w.heap.size w W → Gives Tryz.prog 18 #[.int .i64 12, .int .i64 1] W (fr t)) := fun W hW => by subst ht; exact partR W 12 1 (by decide) (by decide) (by decide) (by decide) (L.below hW)
  have Ph : Hid (∀ W, Below w.heap.size w W → Gives Tryz.prog 18 #[.int .i64 1, .int .i64 2] W (fr h)) := fun W hW => by subst hh; exact partR W 1 2 (by decide) (by decide) (by decide) (by decide) (L.below hW)
  have Pm : Hid (∀ W, Below w.heap.size w W → Gives Tryz.prog 18 #[.int .i64 (-1), .int .i64 4] W (fr m)) := fun W hW => by subst hm; exact partR W (-1) 4 (by decide) (by decide) (by decide) (by decide) (L.below hW)
  obtain ⟨tw, htw⟩ : ∃ x : List Rat, x = kTwelve := ⟨_, rfl⟩
  have HC : Hid (∀ W g0 g1 g2, Below w.heap.size w W → Rd W (some ⟨g0, 0, none⟩) (ints [2, 3, 5]) → Rd W (some ⟨g1, 0, none⟩) (cellsQ [z, z, q]) → Rd W (some ⟨g2, 0, none⟩) (cellsQ [c, e, z]) → Gives Tryz.prog 21 #[.slice (some ⟨g0, 0, none⟩) 3 3, .slice (some ⟨g1, 0, none⟩) 3 3, .slice (some ⟨g2, 0, none⟩) 3 3] W (.tuple #[.int .i64 (-1), .int .i64 0])) := fun W g0 g1 g2 hW h0 h1 h2 => by subst hz; subst hq; subst hc; subst he; exact kCompare W _ _ _ h0 h1 h2 (L.below hW)
  have HF : Hid (∀ W g0 g1 g2, Below w.heap.size w W → Rd W (some ⟨g0, 0, none⟩) (ints [2, 3, 5]) → Rd W (some ⟨g1, 0, none⟩) (cellsQ [e, z, z]) → Rd W (some ⟨g2, 0, none⟩) (cellsQ [a, b, c]) → Gives Tryz.prog 30 #[.slice (some ⟨g0, 0, none⟩) 3 3, .slice (some ⟨g1, 0, none⟩) 3 3, .slice (some ⟨g2, 0, none⟩) 3 3] W (.tuple #[.string (itx 55), .int .i64 0])) := fun W g0 g1 g2 hW h0 h1 h2 => by subst hz; subst ha; subst hb; subst hc; subst he; exact kFloor W _ _ _ h0 h1 h2 (L.below hW)
  have HS : Hid (∀ W g0 g1, Below w.heap.size w W → Rd W (some ⟨g0, 0, none⟩) (ints [2, 3, 5]) → Rd W (some ⟨g1, 0, none⟩) (cellsQ [c, e, z]) → Calls Tryz.prog 23 #[.slice (some ⟨g0, 0, none⟩) 3 3, .slice (some ⟨g1, 0, none⟩) 3 3, fr t] W fun e w' => ∃ a c, e = .returned (.tuple #[.slice a 3 c, .int .i64 0]) ∧ Rd w' a (cellsQ tw) ∧ Below W.heap.size W w') := fun W g0 g1 hW h0 h1 => by subst hz; subst hc; subst he; subst ht; subst htw; exact kScale W _ _ h0 h1 (L.below hW)
  have HR : Hid (∀ W g0 a1 c1 g2, Below w.heap.size w W → Rd W (some ⟨g0, 0, none⟩) (ints [2, 3, 5]) → Rd W a1 (cellsQ tw) → Rd W (some ⟨g2, 0, none⟩) (cellsQ [e, z, z]) → Gives Tryz.prog 31 #[.slice (some ⟨g0, 0, none⟩) 3 3, .slice a1 3 c1, .slice (some ⟨g2, 0, none⟩) 3 3] W (.tuple #[.string (itx 7), .int .i64 0])) := fun W g0 a1 c1 g2 hW h0 h1 h2 => by subst hz; subst he; subst htw; exact kRound W _ _ _ _ h0 h1 h2 (L.below hW)
  have HT : Hid (∀ W g0 g1, Below w.heap.size w W → Rd W (some ⟨g0, 0, none⟩) (ints [2, 3, 5]) → Rd W (some ⟨g1, 0, none⟩) (cellsQ [h, m, e]) → Gives Tryz.prog 45 #[.slice (some ⟨g0, 0, none⟩) 3 3, .slice (some ⟨g1, 0, none⟩) 3 3] W (.tuple #[.string ⟨#[50, 94, 40, 49, 47, 50, 41, 32, 51, 94, 40, 45, 49, 47, 52, 41, 32, 53]⟩, .int .i64 0])) := fun W g0 g1 hW h0 h1 => by subst hh; subst hm; subst he; exact kText W _ _ h0 h1 (L.below hW)
  clear L ha hb hc he hz hq ht hh hm htw
  unfold fr fv at Pa Pb Pc Pe Pz Pq Pt Ph Pm HS
  go_enter Tryz.func12, Tryz.ntmps12
  go_wp2_with fail
  have B1 := Lib.hid (B0.out.alloc B0.out.size (.cells #[.int .i64 2, .int .i64 3, .int .i64 5] 3))
  have Fp := Lib.hid (heap_at w #[.int .i64 2, .int .i64 3, .int .i64 5] 3 _ rfl)
  generalize hg0 : w.heap.size = gp at Fp
  clear hg0 B0
  generalize w.alloc (.cells #[.int .i64 2, .int .i64 3, .int .i64 5] 3) = w1 at *
  refine Calls.mono (Pa.out _ B1.out) ?_
  rintro e_ w2 ⟨rfl, hb_⟩
  have B_w2 := Lib.hid (B1.out.trans (hb_.mono B1.out.size))
  replace Fp := Lib.hid (heap_kept Fp.out hb_ (Nat.le_refl _))
  clear hb_ B1
  go_wp2_with fail
  refine Calls.mono (Pb.out _ B_w2.out) ?_
  rintro e_ w3 ⟨rfl, hb_⟩
  have B_w3 := Lib.hid (B_w2.out.trans (hb_.mono B_w2.out.size))
  replace Fp := Lib.hid (heap_kept Fp.out hb_ (Nat.le_refl _))
  clear hb_ B_w2
  go_wp2_with fail
  refine Calls.mono (Pc.out _ B_w3.out) ?_
  rintro e_ w4 ⟨rfl, hb_⟩
  have B_w4 := Lib.hid (B_w3.out.trans (hb_.mono B_w3.out.size))
  replace Fp := Lib.hid (heap_kept Fp.out hb_ (Nat.le_refl _))
  clear hb_ B_w3
  go_wp2_with fail
  have B_w4b := Lib.hid (B_w4.out.alloc B_w4.out.size (.cells #[.string (itx a.num), .string (dec a.den), .string (itx b.num), .string (dec b.den), .string (itx c.num), .string (dec c.den)] 30))
  have Fc := Lib.hid (heap_at w4 #[.string (itx a.num), .string (dec a.den), .string (itx b.num), .string (dec b.den), .string (itx c.num), .string (dec c.den)] 30 _ rfl)
  replace Fp := Lib.hid (heap_old Fp.out (.cells #[.string (itx a.num), .string (dec a.den), .string (itx b.num), .string (dec b.den), .string (itx c.num), .string (dec c.den)] 30))
  clear B_w4
  generalize hg_ : w4.heap.size = gFc at *
  generalize hw_ : w4.alloc (.cells #[.string (itx a.num), .string (dec a.den), .string (itx b.num), .string (dec b.den), .string (itx c.num), .string (dec c.den)] 30) = w5 at *
  clear hg_ hw_
  refine Calls.mono (Pc.out _ B_w4b.out) ?_
  rintro e_ w6 ⟨rfl, hb_⟩
  have B_w6 := Lib.hid (B_w4b.out.trans (hb_.mono B_w4b.out.size))
  replace Fp := Lib.hid (heap_kept Fp.out hb_ (Nat.le_refl _))
  replace Fc := Lib.hid (heap_kept Fc.out hb_ (Nat.le_refl _))
  clear hb_ B_w4b
  go_wp2_with fail
  refine Calls.mono (Pe.out _ B_w6.out) ?_
  rintro e_ w7 ⟨rfl, hb_⟩
  have B_w7 := Lib.hid (B_w6.out.trans (hb_.mono B_w6.out.size))
  replace Fp := Lib.hid (heap_kept Fp.out hb_ (Nat.le_refl _))
  replace Fc := Lib.hid (heap_kept Fc.out hb_ (Nat.le_refl _))
  clear hb_ B_w6
  go_wp2_with fail
  refine Calls.mono (Pz.out _ B_w7.out) ?_
  rintro e_ w8 ⟨rfl, hb_⟩
  have B_w8 := Lib.hid (B_w7.out.trans (hb_.mono B_w7.out.size))
  replace Fp := Lib.hid (heap_kept Fp.out hb_ (Nat.le_refl _))
  replace Fc := Lib.hid (heap_kept Fc.out hb_ (Nat.le_refl _))
  clear hb_ B_w7
  go_wp2_with fail
  have B_w8b := Lib.hid (B_w8.out.alloc B_w8.out.size (.cells #[.string (itx c.num), .string (dec c.den), .string (itx e.num), .string (dec e.den), .string (itx z.num), .string (dec z.den)] 30))
  have Ff := Lib.hid (heap_at w8 #[.string (itx c.num), .string (dec c.den), .string (itx e.num), .string (dec e.den), .string (itx z.num), .string (dec z.den)] 30 _ rfl)
  replace Fp := Lib.hid (heap_old Fp.out (.cells #[.string (itx c.num), .string (dec c.den), .string (itx e.num), .string (dec e.den), .string (itx z.num), .string (dec z.den)] 30))
  replace Fc := Lib.hid (heap_old Fc.out (.cells #[.string (itx c.num), .string (dec c.den), .string (itx e.num), .string (dec e.den), .string (itx z.num), .string (dec z.den)] 30))
  clear B_w8
  generalize hg_ : w8.heap.size = gFf at *
  generalize hw_ : w8.alloc (.cells #[.string (itx c.num), .string (dec c.den), .string (itx e.num), .string (dec e.den), .string (itx z.num), .string (dec z.den)] 30) = w9 at *
  clear hg_ hw_
  refine Calls.mono (Pe.out _ B_w8b.out) ?_
  rintro e_ w10 ⟨rfl, hb_⟩
  have B_w10 := Lib.hid (B_w8b.out.trans (hb_.mono B_w8b.out.size))
  replace Fp := Lib.hid (heap_kept Fp.out hb_ (Nat.le_refl _))
  replace Fc := Lib.hid (heap_kept Fc.out hb_ (Nat.le_refl _))
  replace Ff := Lib.hid (heap_kept Ff.out hb_ (Nat.le_refl _))
  clear hb_ B_w8b
  go_wp2_with fail
  refine Calls.mono (Pz.out _ B_w10.out) ?_
  rintro e_ w11 ⟨rfl, hb_⟩
  have B_w11 := Lib.hid (B_w10.out.trans (hb_.mono B_w10.out.size))
  replace Fp := Lib.hid (heap_kept Fp.out hb_ (Nat.le_refl _))
  replace Fc := Lib.hid (heap_kept Fc.out hb_ (Nat.le_refl _))
  replace Ff := Lib.hid (heap_kept Ff.out hb_ (Nat.le_refl _))
  clear hb_ B_w10
  go_wp2_with fail
  refine Calls.mono (Pz.out _ B_w11.out) ?_
  rintro e_ w12 ⟨rfl, hb_⟩
  have B_w12 := Lib.hid (B_w11.out.trans (hb_.mono B_w11.out.size))
  replace Fp := Lib.hid (heap_kept Fp.out hb_ (Nat.le_refl _))
  replace Fc := Lib.hid (heap_kept Fc.out hb_ (Nat.le_refl _))
  replace Ff := Lib.hid (heap_kept Ff.out hb_ (Nat.le_refl _))
  clear hb_ B_w11
  go_wp2_with fail
  have B_w12b := Lib.hid (B_w12.out.alloc B_w12.out.size (.cells #[.string (itx e.num), .string (dec e.den), .string (itx z.num), .string (dec z.den), .string (itx z.num), .string (dec z.den)] 30))
  have Fo := Lib.hid (heap_at w12 #[.string (itx e.num), .string (dec e.den), .string (itx z.num), .string (dec z.den), .string (itx z.num), .string (dec z.den)] 30 _ rfl)
  replace Fp := Lib.hid (heap_old Fp.out (.cells #[.string (itx e.num), .string (dec e.den), .string (itx z.num), .string (dec z.den), .string (itx z.num), .string (dec z.den)] 30))
  replace Fc := Lib.hid (heap_old Fc.out (.cells #[.string (itx e.num), .string (dec e.den), .string (itx z.num), .string (dec z.den), .string (itx z.num), .string (dec z.den)] 30))
  replace Ff := Lib.hid (heap_old Ff.out (.cells #[.string (itx e.num), .string (dec e.den), .string (itx z.num), .string (dec z.den), .string (itx z.num), .string (dec z.den)] 30))
  clear B_w12
  generalize hg_ : w12.heap.size = gFo at *
  generalize hw_ : w12.alloc (.cells #[.string (itx e.num), .string (dec e.den), .string (itx z.num), .string (dec z.den), .string (itx z.num), .string (dec z.den)] 30) = w13 at *
  clear hg_ hw_
  refine Calls.mono (Pz.out _ B_w12b.out) ?_
  rintro e_ w14 ⟨rfl, hb_⟩
  have B_w14 := Lib.hid (B_w12b.out.trans (hb_.mono B_w12b.out.size))
  replace Fp := Lib.hid (heap_kept Fp.out hb_ (Nat.le_refl _))
  replace Fc := Lib.hid (heap_kept Fc.out hb_ (Nat.le_refl _))
  replace Ff := Lib.hid (heap_kept Ff.out hb_ (Nat.le_refl _))
  replace Fo := Lib.hid (heap_kept Fo.out hb_ (Nat.le_refl _))
  clear hb_ B_w12b
  go_wp2_with fail
  refine Calls.mono (Pz.out _ B_w14.out) ?_
  rintro e_ w15 ⟨rfl, hb_⟩
  have B_w15 := Lib.hid (B_w14.out.trans (hb_.mono B_w14.out.size))
  replace Fp := Lib.hid (heap_kept Fp.out hb_ (Nat.le_refl _))
  replace Fc := Lib.hid (heap_kept Fc.out hb_ (Nat.le_refl _))
  replace Ff := Lib.hid (heap_kept Ff.out hb_ (Nat.le_refl _))
  replace Fo := Lib.hid (heap_kept Fo.out hb_ (Nat.le_refl _))
  clear hb_ B_w14
  go_wp2_with fail
  refine Calls.mono (Pq.out _ B_w15.out) ?_
  rintro e_ w16 ⟨rfl, hb_⟩
  have B_w16 := Lib.hid (B_w15.out.trans (hb_.mono B_w15.out.size))
  replace Fp := Lib.hid (heap_kept Fp.out hb_ (Nat.le_refl _))
  replace Fc := Lib.hid (heap_kept Fc.out hb_ (Nat.le_refl _))
  replace Ff := Lib.hid (heap_kept Ff.out hb_ (Nat.le_refl _))
  replace Fo := Lib.hid (heap_kept Fo.out hb_ (Nat.le_refl _))
  clear hb_ B_w15
  go_wp2_with fail
  have B_w16b := Lib.hid (B_w16.out.alloc B_w16.out.size (.cells #[.string (itx z.num), .string (dec z.den), .string (itx z.num), .string (dec z.den), .string (itx q.num), .string (dec q.den)] 30))
  have Fq := Lib.hid (heap_at w16 #[.string (itx z.num), .string (dec z.den), .string (itx z.num), .string (dec z.den), .string (itx q.num), .string (dec q.den)] 30 _ rfl)
  replace Fp := Lib.hid (heap_old Fp.out (.cells #[.string (itx z.num), .string (dec z.den), .string (itx z.num), .string (dec z.den), .string (itx q.num), .string (dec q.den)] 30))
  replace Fc := Lib.hid (heap_old Fc.out (.cells #[.string (itx z.num), .string (dec z.den), .string (itx z.num), .string (dec z.den), .string (itx q.num), .string (dec q.den)] 30))
  replace Ff := Lib.hid (heap_old Ff.out (.cells #[.string (itx z.num), .string (dec z.den), .string (itx z.num), .string (dec z.den), .string (itx q.num), .string (dec q.den)] 30))
  replace Fo := Lib.hid (heap_old Fo.out (.cells #[.string (itx z.num), .string (dec z.den), .string (itx z.num), .string (dec z.den), .string (itx q.num), .string (dec q.den)] 30))
  clear B_w16
  generalize hg_ : w16.heap.size = gFq at *
  generalize hw_ : w16.alloc (.cells #[.string (itx z.num), .string (dec z.den), .string (itx z.num), .string (dec z.den), .string (itx q.num), .string (dec q.den)] 30) = w17 at *
  clear hg_ hw_
  have hC := HC.out _ _ _ _ B_w16b.out (rd_obj Fp.out) (rd_obj Fq.out) (rd_obj Ff.out)
  clear HC
  refine Calls.mono (hC) ?_
  rintro e_ w18 ⟨rfl, hb_⟩
  have B_w18 := Lib.hid (B_w16b.out.trans (hb_.mono B_w16b.out.size))
  replace Fp := Lib.hid (heap_kept Fp.out hb_ (Nat.le_refl _))
  replace Fc := Lib.hid (heap_kept Fc.out hb_ (Nat.le_refl _))
  replace Ff := Lib.hid (heap_kept Ff.out hb_ (Nat.le_refl _))
  replace Fo := Lib.hid (heap_kept Fo.out hb_ (Nat.le_refl _))
  replace Fq := Lib.hid (heap_kept Fq.out hb_ (Nat.le_refl _))
  clear hb_ B_w16b
  clear hC Fq
  go_wp2_with fail
  have hF := HF.out _ _ _ _ B_w18.out (rd_obj Fp.out) (rd_obj Fo.out) (rd_obj Fc.out)
  clear HF
  refine Calls.mono (hF) ?_
  rintro e_ w19 ⟨rfl, hb_⟩
  have B_w19 := Lib.hid (B_w18.out.trans (hb_.mono B_w18.out.size))
  replace Fp := Lib.hid (heap_kept Fp.out hb_ (Nat.le_refl _))
  replace Fc := Lib.hid (heap_kept Fc.out hb_ (Nat.le_refl _))
  replace Ff := Lib.hid (heap_kept Ff.out hb_ (Nat.le_refl _))
  replace Fo := Lib.hid (heap_kept Fo.out hb_ (Nat.le_refl _))
  clear hb_ B_w18
  clear hF Fc
  go_wp2_with fail
  refine Calls.mono (Pt.out _ B_w19.out) ?_
  rintro e_ w20 ⟨rfl, hb_⟩
  have B_w20 := Lib.hid (B_w19.out.trans (hb_.mono B_w19.out.size))
  replace Fp := Lib.hid (heap_kept Fp.out hb_ (Nat.le_refl _))
  replace Ff := Lib.hid (heap_kept Ff.out hb_ (Nat.le_refl _))
  replace Fo := Lib.hid (heap_kept Fo.out hb_ (Nat.le_refl _))
  clear hb_ B_w19
  go_wp2_with fail
  have hS := HS.out _ _ _ B_w20.out (rd_obj Fp.out) (rd_obj Ff.out)
  clear HS Ff
  refine Calls.mono hS ?_
  rintro e_ w21 ⟨a5, c5, rfl, hr, hb_⟩
  have B_w21 := Lib.hid (B_w20.out.trans (hb_.mono B_w20.out.size))
  replace Fp := Lib.hid (heap_kept Fp.out hb_ (Nat.le_refl _))
  replace Fo := Lib.hid (heap_kept Fo.out hb_ (Nat.le_refl _))
  have Rt := Lib.hid hr
  clear hb_ B_w20 hr hS
  go_wp2_with fail
  have hR := HR.out _ _ _ c5 _ B_w21.out (rd_obj Fp.out) Rt.out (rd_obj Fo.out)
  clear HR Rt
  refine Calls.mono (hR) ?_
  rintro e_ w22 ⟨rfl, hb_⟩
  have B_w22 := Lib.hid (B_w21.out.trans (hb_.mono B_w21.out.size))
  replace Fp := Lib.hid (heap_kept Fp.out hb_ (Nat.le_refl _))
  replace Fo := Lib.hid (heap_kept Fo.out hb_ (Nat.le_refl _))
  clear hb_ B_w21
  clear hR Fo
  go_wp2_with fail
  refine Calls.mono (Ph.out _ B_w22.out) ?_
  rintro e_ w23 ⟨rfl, hb_⟩
  have B_w23 := Lib.hid (B_w22.out.trans (hb_.mono B_w22.out.size))
  replace Fp := Lib.hid (heap_kept Fp.out hb_ (Nat.le_refl _))
  clear hb_ B_w22
  go_wp2_with fail
  refine Calls.mono (Pm.out _ B_w23.out) ?_
  rintro e_ w24 ⟨rfl, hb_⟩
  have B_w24 := Lib.hid (B_w23.out.trans (hb_.mono B_w23.out.size))
  replace Fp := Lib.hid (heap_kept Fp.out hb_ (Nat.le_refl _))
  clear hb_ B_w23
  go_wp2_with fail
  refine Calls.mono (Pe.out _ B_w24.out) ?_
  rintro e_ w25 ⟨rfl, hb_⟩
  have B_w25 := Lib.hid (B_w24.out.trans (hb_.mono B_w24.out.size))
  replace Fp := Lib.hid (heap_kept Fp.out hb_ (Nat.le_refl _))
  clear hb_ B_w24
  go_wp2_with fail
  have B_w25b := Lib.hid (B_w25.out.alloc B_w25.out.size (.cells #[.string (itx h.num), .string (dec h.den), .string (itx m.num), .string (dec m.den), .string (itx e.num), .string (dec e.den)] 30))
  have Fl := Lib.hid (heap_at w25 #[.string (itx h.num), .string (dec h.den), .string (itx m.num), .string (dec m.den), .string (itx e.num), .string (dec e.den)] 30 _ rfl)
  replace Fp := Lib.hid (heap_old Fp.out (.cells #[.string (itx h.num), .string (dec h.den), .string (itx m.num), .string (dec m.den), .string (itx e.num), .string (dec e.den)] 30))
  clear B_w25
  generalize hg_ : w25.heap.size = gFl at *
  generalize hw_ : w25.alloc (.cells #[.string (itx h.num), .string (dec h.den), .string (itx m.num), .string (dec m.den), .string (itx e.num), .string (dec e.den)] 30) = w26 at *
  clear hg_ hw_
  have hT := HT.out _ _ _ B_w25b.out (rd_obj Fp.out) (rd_obj Fl.out)
  clear HT
  refine Calls.mono (hT) ?_
  rintro e_ w27 ⟨rfl, hb_⟩
  have B_w27 := Lib.hid (B_w25b.out.trans (hb_.mono B_w25b.out.size))
  replace Fp := Lib.hid (heap_kept Fp.out hb_ (Nat.le_refl _))
  replace Fl := Lib.hid (heap_kept Fl.out hb_ (Nat.le_refl _))
  clear hb_ B_w25b
  clear hT Fl Fp
  have k55 := k55
  have k7 := k7
  go_wp2_with fail
  go_ret
  exact ⟨rfl, B_w27.out⟩

end Go.Proofs.YtlomhfknmhaboaaGreatDoor

/- The law SizeIntervals: what its function returns. -/
namespace Go.Proofs.YtlomhfknmhaboaaGreatDoor
open Go.RowKit

theorem part_regrown (w : World) (n : Int) (d : Nat) (v : Rat) (hv : mkRat n d = v) (q1 : -9223372036854775808 ≤ n) (q2 : n ≤ 9223372036854775807) (q3 : 0 < d) (q4 : d ≤ 1000000) (L : Laid w) :
    ∀ k os, Calls Tryz.prog 18 #[.int .i64 n, .int .i64 d] (Go.Sort.grow (redrawn w k) os) fun e w'' => e = .returned (fr v) ∧ ∃ p : Regrown, w'' = Go.Sort.grow (redrawn w p.d) p.os := fun k os => by
  subst hv
  exact Calls.regrown_of (partR _ n d q1 q2 q3 q4 (L.below (below_regrown w k os)))

set_option maxRecDepth 100000 in
set_option maxHeartbeats 8000000 in
theorem lawIvl_long (w : World) (a0 a1 : Option Addr) (c0 c1 n m : Nat) (h : 8 < n ∨ 10 < m) (L : Laid w) :
    Gives Tryz.prog 8 #[.slice a0 n c0, .slice a1 m c1] w (.bool true) := by
  unfold Gives
  have Hk : Hid (∀ W, Below w.heap.size w W → Gives Tryz.prog 12 #[] W (.bool true)) := fun W hW => known_ok W (L.below hW)
  clear L
  by_cases h8 : (8 : Int) < n
  · go_enter Tryz.func8, Tryz.ntmps8
    go_wp2_with fail
    refine Calls.mono (Hk.out _ (Below.refl _ _)) ?_
    rintro e w1 ⟨rfl, hb1⟩
    have B1 := Lib.hid hb1
    clear hb1
    go_wp2_with fail
    refine Calls.mono (Hk.out _ B1.out) ?_
    rintro e w2 ⟨rfl, hb2⟩
    have B2 := Lib.hid (B1.out.trans (hb2.mono B1.out.size))
    clear hb2 B1 Hk
    go_wp2_with fail
    go_ret
    exact ⟨rfl, B2.out⟩
  · have h10 : (10 : Int) < m := by omega
    clear h
    go_enter Tryz.func8, Tryz.ntmps8
    go_wp2_with fail
    refine Calls.mono (Hk.out _ (Below.refl _ _)) ?_
    rintro e w1 ⟨rfl, hb1⟩
    have B1 := Lib.hid hb1
    clear hb1
    go_wp2_with fail
    refine Calls.mono (Hk.out _ B1.out) ?_
    rintro e w2 ⟨rfl, hb2⟩
    have B2 := Lib.hid (B1.out.trans (hb2.mono B1.out.size))
    clear hb2 B1 Hk
    go_wp2_with fail
    go_ret
    exact ⟨rfl, B2.out⟩

set_option maxRecDepth 100000 in
set_option maxHeartbeats 8000000 in
theorem lawIvl_err (w : World) (a0 a1 : Option Addr) (c0 c1 : Nat) (ps r : List Int) (hp : Rd w a0 (ints ps)) (hi : I64s ps) (hr : Rd w a1 (ints r)) (h8 : ps.length ≤ 8) (h10 : r.length ≤ 10) (hc : pcode ps ≠ 0) (L : Laid w) :
    Gives Tryz.prog 8 #[.slice a0 ps.length c0, .slice a1 r.length c1] w (.bool true) := by
  unfold Gives
  have Hk : Hid (∀ W, Below w.heap.size w W → Gives Tryz.prog 12 #[] W (.bool true)) := fun W hW => known_ok W (L.below hW)
  have Hz : Hid (∀ W, Below w.heap.size w W → GivesErr 37 #[.slice a0 ps.length c0] W (pcode ps)) := fun W hW => zero_err W a0 c0 ps (hp.below hW (Nat.le_refl _)) hi (by omega) hc
  have He : Hid (∀ W, Below w.heap.size w W → GivesErr 38 #[.slice a0 ps.length c0] W (pcode ps)) := fun W hW => equave_err W a0 c0 ps (hp.below hW (Nat.le_refl _)) hi (by omega) hc
  have hm : mcode1 ps r = pcode ps := by unfold mcode1 mcode; rw [if_neg hc]
  have Ho : Hid (∀ W, Below w.heap.size w W → GivesErr 39 #[.slice a0 ps.length c0, .slice a1 r.length c1] W (pcode ps)) := fun W hW => by
    have := of_err W a0 a1 c0 c1 ps r (hp.below hW (Nat.le_refl _)) hi (by omega) (hr.below hW (Nat.le_refl _)) (by omega) (by rw [hm]; exact hc)
    rw [hm] at this
    exact this
  have Hc : Hid (∀ W, Below w.heap.size w W → Gives Tryz.prog 40 #[.slice a0 ps.length c0] W (.int .i64 (pcode ps))) := fun W hW => primeCheck_any W a0 c0 ps (hp.below hW (Nat.le_refl _)) hi (by omega)
  unfold GivesErr at Hz He Ho
  have hp0 : (pcode ps == 0) = false := by rw [beq_eq_false_iff_ne]; exact hc
  clear L hp hi hr hm hc
  generalize pcode ps = p at *
  generalize ps.length = n at *
  generalize r.length = m at *
  have h8' : ¬ (8 : Int) < n := by omega
  have h10' : ¬ (10 : Int) < m := by omega
  go_enter Tryz.func8, Tryz.ntmps8
  go_wp2_with fail
  refine Calls.mono (Hk.out _ (Below.refl _ _)) ?_
  rintro e w1 ⟨rfl, hb1⟩
  have B1 := Lib.hid hb1
  clear hb1 Hk
  go_wp2_with fail
  refine Calls.mono (Hz.out _ B1.out) ?_
  rintro e w2 ⟨rfl, hb2⟩
  have B2 := Lib.hid (B1.out.trans (hb2.mono B1.out.size))
  clear hb2 B1 Hz
  go_wp2_with fail
  refine Calls.mono (He.out _ B2.out) ?_
  rintro e w3 ⟨rfl, hb3⟩
  have B3 := Lib.hid (B2.out.trans (hb3.mono B2.out.size))
  clear hb3 B2 He
  go_wp2_with fail
  refine Calls.mono (Ho.out _ B3.out) ?_
  rintro e w4 ⟨rfl, hb4⟩
  have B4 := Lib.hid (B3.out.trans (hb4.mono B3.out.size))
  clear hb4 B3 Ho
  go_wp2_with fail
  refine Calls.mono (Hc.out _ B4.out) ?_
  rintro e w5 ⟨rfl, hb5⟩
  have B5 := Lib.hid (B4.out.trans (hb5.mono B4.out.size))
  clear hb5 B4 Hc
  go_wp2_with fail
  go_ret
  exact ⟨rfl, B5.out⟩

end Go.Proofs.YtlomhfknmhaboaaGreatDoor

/- The law SizeIntervals over right primes: what its function returns. -/
namespace Go.Proofs.YtlomhfknmhaboaaGreatDoor
open Go.RowKit

theorem rdq_at {w wr : World} {a : Option Addr} {l : List Rat} {B : Nat} (h : Rd w a (cellsQ l)) (hb : Below B w wr) (hB : w.heap.size ≤ B) (k : Nat) (hk : k < l.length) :
    ∃ b off, a = some ⟨b, off, none⟩ ∧ wr.cell? ⟨b, off + k * 2, none⟩ = some (.string (itx l[k].num)) ∧ wr.cell? ⟨b, off + k * 2 + 1, none⟩ = some (.string (dec l[k].den)) := by
  obtain ⟨b, off, rfl, hbl, hcells⟩ := h.open (by rw [cellsQ_length]; omega)
  obtain ⟨x0, x1⟩ := cellsS_rd hcells k (by rw [List.length_map]; exact hk)
  rw [← hb.cell (p := ⟨b, off + k * 2, none⟩) (Nat.lt_of_lt_of_le hbl hB), qs_getD _ k hk] at x0
  rw [← hb.cell (p := ⟨b, off + k * 2 + 1, none⟩) (Nat.lt_of_lt_of_le hbl hB), qs_getD _ k hk] at x1
  exact ⟨b, off, rfl, x0, x1⟩

set_option maxRecDepth 100000 in
set_option maxHeartbeats 16000000 in
theorem lawIvl_ok (w : World) (a0 a1 : Option Addr) (c0 c1 : Nat) (ps r : List Int) (hp : Rd w a0 (ints ps)) (hi : I64s ps) (hr : Rd w a1 (ints r)) (hri : I64s r) (h8 : ps.length ≤ 8) (h10 : r.length ≤ 10) (hc : pcode ps = 0) (L : Laid w) :
    Gives Tryz.prog 8 #[.slice a0 ps.length c0, .slice a1 r.length c1] w (.bool true) := by
  unfold Gives
  obtain ⟨hn0, -⟩ := pcode_pos hc
  have Hk : Hid (∀ W, Below w.heap.size w W → Gives Tryz.prog 12 #[] W (.bool true)) := fun W hW => known_ok W (L.below hW)
  have Hz : Hid (∀ W, Below w.heap.size w W → GivesOk 37 #[.slice a0 ps.length c0] W (List.replicate ps.length 0)) := fun W hW => zero_ok W a0 c0 ps (hp.below hW (Nat.le_refl _)) hi (by omega) hc (L.below hW)
  have He : Hid (∀ W, Below w.heap.size w W → GivesOk 38 #[.slice a0 ps.length c0] W ((List.replicate ps.length 0).set 0 1)) := fun W hW => equave_ok W a0 c0 ps (hp.below hW (Nat.le_refl _)) hi hc (L.below hW)
  obtain ⟨ls, hls⟩ : ∃ ls : List Rat, ls = if mcode1 ps r = 0 then r.map (fun x : Int => (x : Rat)) else [] := ⟨_, rfl⟩
  have Ho : Hid (∀ W, Below w.heap.size w W → Calls Tryz.prog 39 #[.slice a0 ps.length c0, .slice a1 r.length c1] W fun e w' => ∃ a c, e = .returned (.tuple #[.slice a ls.length c, .int .i64 (mcode1 ps r)]) ∧ Rd w' a (cellsQ ls) ∧ Below W.heap.size W w') := fun W hW => by
    by_cases h : mcode1 ps r = 0
    · refine Calls.mono (of_ok W a0 a1 c0 c1 ps r (hp.below hW (Nat.le_refl _)) hi (hr.below hW (Nat.le_refl _)) hri h (L.below hW)) ?_
      rintro e w' ⟨a, c, rfl, ho, hb⟩
      rw [if_pos h] at hls
      subst hls
      exact ⟨a, c, by rw [h], ho.rd, hb⟩
    · refine Calls.mono (of_err W a0 a1 c0 c1 ps r (hp.below hW (Nat.le_refl _)) hi (by omega) (hr.below hW (Nat.le_refl _)) (by omega) h) ?_
      rintro e w' ⟨rfl, hb⟩
      rw [if_neg h] at hls
      subst hls
      exact ⟨none, 0, rfl, .inl rfl, hb⟩
  have Hc : Hid (∀ W, Below w.heap.size w W → Gives Tryz.prog 40 #[.slice a0 ps.length c0] W (.int .i64 0)) := fun W hW => by
    have := primeCheck_any W a0 c0 ps (hp.below hW (Nat.le_refl _)) hi (by omega)
    rw [hc] at this
    exact this
  have Hm : Hid (∀ W, Below w.heap.size w W → Gives Tryz.prog 41 #[.slice a0 ps.length c0, .slice a1 r.length c1] W (.int .i64 (mcode1 ps r))) := fun W hW =>
    monCheck_any W a0 a1 c0 c1 ps r (hp.below hW (Nat.le_refl _)) hi (by omega) (hr.below hW (Nat.le_refl _)) (by omega)
  have HL := Lib.hid L
  have Hr := Lib.hid hr
  have Hri := Lib.hid hri
  unfold GivesOk at Hz He
  simp only [List.length_set, List.length_replicate] at Hz He
  obtain ⟨one, hone⟩ : ∃ q : Rat, q = 1 := ⟨_, rfl⟩
  obtain ⟨zz, hzz⟩ : ∃ q : Rat, q = 0 := ⟨_, rfl⟩
  have P1 : Hid (∀ W, Below w.heap.size w W → ∀ k os, Calls Tryz.prog 18 #[.int .i64 1, .int .i64 1] (Go.Sort.grow (redrawn W k) os) fun e w'' => e = .returned (fr one) ∧ ∃ p : Regrown, w'' = Go.Sort.grow (redrawn W p.d) p.os) := fun W hW =>
    part_regrown W 1 1 one (by rw [hone]; rfl) (by decide) (by decide) (by decide) (by decide) (L.below hW)
  have P0 : Hid (∀ W, Below w.heap.size w W → ∀ k os, Calls Tryz.prog 18 #[.int .i64 0, .int .i64 1] (Go.Sort.grow (redrawn W k) os) fun e w'' => e = .returned (fr zz) ∧ ∃ p : Regrown, w'' = Go.Sort.grow (redrawn W p.d) p.os) := fun W hW =>
    part_regrown W 0 1 zz (by rw [hzz]; rfl) (by decide) (by decide) (by decide) (by decide) (L.below hW)
  have PX : Hid (∀ (x : Int) (q : Rat), x ∈ r → (x : Rat) = q → ∀ W, Below w.heap.size w W → ∀ k os, Calls Tryz.prog 18 #[.int .i64 x, .int .i64 1] (Go.Sort.grow (redrawn W k) os) fun e w'' => e = .returned (fr q) ∧ ∃ p : Regrown, w'' = Go.Sort.grow (redrawn W p.d) p.os) := fun x q hx hq W hW =>
    part_regrown W x 1 q (by rw [← hq]; exact Rat.mkRat_one x) (hri x hx).1 (hri x hx).2 (by decide) (by decide) (L.below hW)
  unfold fr fv at P1 P0 PX
  have Hone := Lib.hid hone
  have Hzz := Lib.hid hzz
  have Hml := Lib.hid (fun h : mcode1 ps r = 0 => (mcode1_zero h).2)
  have Hls := Lib.hid hls
  clear hls
  clear L hp hi hr hri hc hone hzz
  generalize mcode1 ps r = mc at *
  generalize ps.length = n at *
  generalize hm : r.length = m at *
  have Hmm := Lib.hid hm
  clear hm
  have h8' : ¬ (8 : Int) < n := by omega
  have h10' : ¬ (10 : Int) < m := by omega
  have hn0' : (0 : Int) < n := by omega
  go_enter Tryz.func8, Tryz.ntmps8
  go_wp2_with fail
  refine Calls.mono (Hk.out _ (Below.refl _ _)) ?_
  rintro e w1 ⟨rfl, hb1⟩
  have B1 := Lib.hid hb1
  clear hb1 Hk
  go_wp2_with fail
  refine Calls.mono (Hz.out _ B1.out) ?_
  rintro e w2 ⟨az, cz, rfl, hoz, hb2⟩
  have B2 := Lib.hid (B1.out.trans (hb2.mono B1.out.size))
  have Rz := Lib.hid hoz.rd
  clear hb2 B1 Hz hoz
  go_wp2_with fail
  refine Calls.mono (He.out _ B2.out) ?_
  rintro e w3 ⟨ae, ce, rfl, hoe, hb3⟩
  have B3 := Lib.hid (B2.out.trans (hb3.mono B2.out.size))
  have Re := Lib.hid hoe.rd
  replace Rz := Lib.hid (Rz.out.below hb3 (Nat.le_refl _))
  clear hb3 B2 He hoe
  have Hzl : Hid (∀ k (h : k < (List.replicate n (0 : Rat)).length), (List.replicate n (0 : Rat))[k] = zz) := fun k h => by rw [List.getElem_replicate, Hzz.out]
  have Hel : Hid (∀ k (h : k < ((List.replicate n (0 : Rat)).set 0 1).length), ((List.replicate n (0 : Rat)).set 0 1)[k] = if k = 0 then one else zz) := fun k h => by
    rw [List.getElem_set]
    by_cases h0 : k = 0
    · rw [if_pos h0.symm, if_pos h0, Hone.out]
    · rw [if_neg (fun e => h0 e.symm), if_neg h0, List.getElem_replicate, Hzz.out]
  go_wp2_with fail
  refine Calls.mono (Ho.out _ B3.out) ?_
  rintro e w4 ⟨a4, c4, rfl, hos, hb4⟩
  have B4 := Lib.hid (B3.out.trans (hb4.mono B3.out.size))
  have Rs := Lib.hid hos
  replace Rz := Lib.hid (Rz.out.below hb4 (Nat.le_refl _))
  replace Re := Lib.hid (Re.out.below hb4 (Nat.le_refl _))
  clear hb4 B3 Ho hos
  go_wp2_with fail
  refine Calls.mono (Hc.out _ B4.out) ?_
  rintro e w5 ⟨rfl, hb5⟩
  have B5 := Lib.hid (B4.out.trans (hb5.mono B4.out.size))
  replace Rz := Lib.hid (Rz.out.below hb5 (Nat.le_refl _))
  replace Re := Lib.hid (Re.out.below hb5 (Nat.le_refl _))
  replace Rs := Lib.hid (Rs.out.below hb5 (Nat.le_refl _))
  clear hb5 B4 Hc
  obtain ⟨be, oe, rfl, x0, x1⟩ := rdq_at Re.out (Below.refl w5.heap.size w5) (Nat.le_refl _) 0 (by simp; omega)
  rw [Hel.out 0 (by simp; omega), if_pos rfl] at x0 x1
  simp only [Nat.zero_mul, Nat.add_zero] at x0 x1
  have q0 := cell_regrown x0
  have q1 := cell_regrown x1
  have hP := P1.out _ B5.out
  go_wp2_with fail
  clear x0 x1
  refine wp_region_quiet_below (by kernel_rfl) (by kernel_rfl) ?_
  repeat (first | go_big_quiet_step (with_reducible exact hP _ _) | quiet_step (with_reducible exact hP _ _))
  refine wpQuiet_nil ?_
  intro w6 hw6
  obtain ⟨⟨dq, osq⟩, rfl⟩ := hw6
  have W6 := below_regrown w5 dq osq
  have B6 := Lib.hid (B5.out.trans (W6.mono B5.out.size))
  replace Rz := Lib.hid (Rz.out.below W6 (Nat.le_refl _))
  replace Re := Lib.hid (Re.out.below W6 (Nat.le_refl _))
  replace Rs := Lib.hid (Rs.out.below W6 (Nat.le_refl _))
  clear W6 hP q0 q1 B5
  generalize Go.Sort.grow (redrawn w5 dq) osq = w6 at *
  go_wp2_with fail
  go_loopw [12] (fun i wr => ∃ k : Nat, k ≤ n ∧ i = .int .i64 k ∧ Hid (Rd wr az (cellsQ (List.replicate n 0))) ∧ Hid (Rd wr (some ⟨be, oe, none⟩) (cellsQ ((List.replicate n 0).set 0 1))) ∧ Hid (Rd wr a4 (cellsQ ls)) ∧ Hid (Below w.heap.size w wr)) (fun i _ => n - (intOf i).toNat)
  case atStart => exact ⟨0, Nat.zero_le _, rfl, Rz, Re, Rs, B6⟩
  case round =>
    clear Rz Re Rs B6
    obtain ⟨k, hk, rfl, Rz, Re, Rs, B⟩ := hrel
    by_cases hlt : k < n
    · have hlt' : (k : Int) < n := by omega
      obtain ⟨bz, oz, rfl, x0, x1⟩ := rdq_at Rz.out (Below.refl wr.heap.size wr) (Nat.le_refl _) k (by simp; omega)
      obtain ⟨be', oe', hbe, y0, y1⟩ := rdq_at Re.out (Below.refl wr.heap.size wr) (Nat.le_refl _) k (by simp; omega)
      simp only [Option.some.injEq, Addr.mk.injEq, and_true] at hbe
      obtain ⟨rfl, rfl⟩ := hbe
      rw [Hzl.out k (by simp; omega)] at x0 x1
      rw [Hel.out k (by simp; omega)] at y0 y1
      have hP := P0.out _ B.out
      have HK := Lib.hid hlt
      by_cases h0 : k = 0
      · have hd : decide ((0 : Int) < k) = false := decide_eq_false (by omega)
        have hdn : decide (0 < k) = false := decide_eq_false (by omega)
        clear y0 y1
        have q0 := cell_regrown x0
        have q1 := cell_regrown x1
        clear h0
        go_wp2_with fail
        clear x0 x1
        refine wp_region_quiet_below (by kernel_rfl) (by kernel_rfl) ?_
        repeat (first | go_big_quiet_step (with_reducible exact hP _ _) | quiet_step (with_reducible exact hP _ _))
        refine wpQuiet_nil ?_
        intro w6 hw6
        obtain ⟨⟨dq, osq⟩, rfl⟩ := hw6
        have W6 := below_regrown wr dq osq
        have B6 := Lib.hid (B.out.trans (W6.mono B.out.size))
        replace Rz := Lib.hid (Rz.out.below W6 (Nat.le_refl _))
        replace Re := Lib.hid (Re.out.below W6 (Nat.le_refl _))
        replace Rs := Lib.hid (Rs.out.below W6 (Nat.le_refl _))
        clear W6 hP q0 q1 B
        generalize Go.Sort.grow (redrawn wr dq) osq = w6 at *
        go_wp2_with fail
        go_roundw
        case rel => exact ⟨k + 1, HK.out, by go_num, Rz, Re, Rs, B6⟩
        case measure => simp [intOf]; omega
      · have hd : decide ((0 : Int) < k) = true := decide_eq_true (by omega)
        have hdn : decide (0 < k) = true := decide_eq_true (by omega)
        rw [if_neg h0] at y0 y1
        have q0 := cell_regrown x0
        have q1 := cell_regrown x1
        have q2 := cell_regrown y0
        have q3 := cell_regrown y1
        clear h0
        go_wp2_with fail
        clear x0 x1 y0 y1
        refine wp_region_quiet_below (by kernel_rfl) (by kernel_rfl) ?_
        repeat (first | go_big_quiet_step (with_reducible exact hP _ _) | quiet_step (with_reducible exact hP _ _))
        refine wpQuiet_nil ?_
        intro w6 hw6
        obtain ⟨⟨dq, osq⟩, rfl⟩ := hw6
        have W6 := below_regrown wr dq osq
        have B6 := Lib.hid (B.out.trans (W6.mono B.out.size))
        replace Rz := Lib.hid (Rz.out.below W6 (Nat.le_refl _))
        replace Re := Lib.hid (Re.out.below W6 (Nat.le_refl _))
        replace Rs := Lib.hid (Rs.out.below W6 (Nat.le_refl _))
        clear W6 hP q0 q1 q2 q3 B
        generalize Go.Sort.grow (redrawn wr dq) osq = w6 at *
        go_wp2_with fail
        go_roundw
        case rel => exact ⟨k + 1, HK.out, by go_num, Rz, Re, Rs, B6⟩
        case measure => simp [intOf]; omega
    · have hlt' : ¬ (k : Int) < n := by omega
      clear Rz Re P1 P0 Hel Hzl hk hlt
      go_wp2_with fail
      refine Calls.mono (Hm.out _ B.out) ?_
      rintro e w7 ⟨rfl, hb7⟩
      have B7 := Lib.hid (B.out.trans (hb7.mono B.out.size))
      replace Rs := Lib.hid (Rs.out.below hb7 (Nat.le_refl _))
      clear hb7 B Hm
      by_cases hmc : mc = 0
      · have hls := Hls.out
        rw [if_pos hmc] at hls
        have hml := Hml.out hmc
        have Hlsl : Hid (ls.length = m) := by show _ = _; rw [hls, List.length_map, Hmm.out]
        have Hlse := Lib.hid hls
        clear hls Hls Hml
        subst hmc
        subst hml
        have hll := Hlsl.out
        generalize hlq : ls.length = lq at *
        subst hll
        go_wp2_with fail
        go_loopw [14] (fun i wr => ∃ k : Nat, k ≤ lq ∧ i = .int .i64 k ∧ Hid (Rd wr a4 (cellsQ ls)) ∧ Hid (Below w.heap.size w wr)) (fun i _ => lq - (intOf i).toNat)
        case atStart => exact ⟨0, Nat.zero_le _, rfl, Rs, B7⟩
        case round =>
          clear Rs B7
          obtain ⟨k, hk, rfl, Rs, B⟩ := hrel
          by_cases hlt2 : k < lq
          · have hlt2' : (k : Int) < lq := by omega
            obtain ⟨bz, oz, rfl, x0, x1⟩ := rdq_at Rs.out (Below.refl wr.heap.size wr) (Nat.le_refl _) k (by omega)
            have hkr : k < r.length := by rw [Hmm.out]; exact hlt2
            obtain ⟨b2, o2, rfl, hb2, hc2⟩ := Hr.out.open (by rw [ints_length]; omega)
            have cy := hc2 k _ (ints_get r k hkr)
            rw [← B.out.cell (p := ⟨b2, o2 + k, none⟩) hb2] at cy
            have hmem : r[k] ∈ r := List.getElem_mem hkr
            have hq : ((r[k] : Int) : Rat) = ls[k]'(by omega) := by
              have e := Hlse.out
              subst e
              rw [List.getElem_map]
            have hP := PX.out _ _ hmem hq wr B.out
            clear hc2 hmem hq
            generalize r[k] = x at *
            generalize ls[k]'(by omega) = q at *
            have HK := Lib.hid hlt2
            have q0 := cell_regrown x0
            have q1 := cell_regrown x1
            have q2 := cell_regrown cy
            go_wp2_with fail
            clear x0 x1 cy
            refine wp_region_quiet_below (by kernel_rfl) (by kernel_rfl) ?_
            repeat (first | go_big_quiet_step (with_reducible exact hP _ _) | quiet_step (with_reducible exact hP _ _))
            refine wpQuiet_nil ?_
            intro w6 hw6
            obtain ⟨⟨dq, osq⟩, rfl⟩ := hw6
            have W6 := below_regrown wr dq osq
            have B6 := Lib.hid (B.out.trans (W6.mono B.out.size))
            replace Rs := Lib.hid (Rs.out.below W6 (Nat.le_refl _))
            clear W6 hP q0 q1 q2 B
            generalize Go.Sort.grow (redrawn wr dq) osq = w6 at *
            go_wp2_with fail
            go_roundw
            case rel => exact ⟨k + 1, HK.out, by go_num, Rs, B6⟩
            case measure => simp [intOf]; omega
          · have hlt2' : ¬ (k : Int) < lq := by omega
            go_wp2_with fail
            go_ret
            exact ⟨rfl, B.out⟩
      · have hls := Hls.out
        rw [if_neg hmc] at hls
        have hll : ls.length = 0 := by rw [hls]; rfl
        have hm0 : (mc == 0) = false := by rw [beq_eq_false_iff_ne]; exact hmc
        clear hls Hls Hml hmc
        generalize ls.length = lq at *
        subst hll
        go_wp2_with fail
        go_ret
        exact ⟨rfl, B7.out⟩

end Go.Proofs.YtlomhfknmhaboaaGreatDoor

/- For any list of at most 8 primes and any row of at most 10 elements, Zero, Equave and Of return the sizes, or the first error. No condition: the statement holds for every input. -/
namespace Go.Proofs.YtlomhfknmhaboaaGreatDoor
open Go.ChangeShapes Go.WideShapes Go.ChangeAt Go.RowKit

theorem lawIntervals (w : World) (a0 a1 : Option Addr) (c0 c1 : Nat) (ps r : List Int) (hp : Rd w a0 (ints ps)) (hi : I64s ps) (hr : Rd w a1 (ints r)) (hri : I64s r) (L : Laid w) :
    Gives Tryz.prog 8 #[.slice a0 ps.length c0, .slice a1 r.length c1] w (.bool true) := by
  by_cases h : 8 < ps.length ∨ 10 < r.length
  · exact lawIvl_long w a0 a1 c0 c1 _ _ h L
  · by_cases hc : pcode ps = 0
    · exact lawIvl_ok w a0 a1 c0 c1 ps r hp hi hr hri (by omega) (by omega) hc L
    · exact lawIvl_err w a0 a1 c0 c1 ps r hp hi hr (by omega) (by omega) hc L

set_option maxRecDepth 100000 in
theorem intervals_lifted (os : Os) (started : os.Started) (H : Type) (enc : TypeId × Value → H) :
    ReturnsInHanded {} Tryz.checked os 8 .any (fun w args => (Rows.sizeIntervalsSpec.pre enc Tryz.prog Tryz.f8 [] false w args ∧ laidMetH Tryz.prog laidL w) ∧ sizedMet enc Tryz.prog Tryz.f8 (OpenSpec.ofChange Rows.sizeIntervalsSpec) false w args)
      (Rows.sizeIntervalsSpec.post enc Tryz.prog Tryz.f8 false true false false) := by
  refine returnsInHanded_of_change_and (C := Tryz.checked) (X := fun w _ => laidMetH Tryz.prog laidL w) (fun _ _ _ hh h => h.of_heap hh) own started (by kernel_rfl) Tryz.func8
    (ChangeSpec.witness_shaped (enc := enc) (C := Tryz.checked) (os := os) (X := fun w _ => laidMetH Tryz.prog laidL w) false (World.doorLaid Tryz.prog 400 os) #[.slice none 0 0, .slice none 0 0] 8 rfl (World.shaped_of_RefB (by kernel_rfl) (by kernel_rfl)) (by kernel_rfl) (by kernel_rfl) (by kernel_rfl) (door_met os _)) ?_
  intro W base args ds gs before hval0 hW _ _ hL _
  have hval : ∀ (j : Nat) t v, Tryz.f8.params[j]? = some t → args[j]? = some v → Value.okWide Tryz.prog W .any base t v := hval0
  have hW' := hW
  obtain ⟨p, q, hA0, hV, rfl, hfz, hnd⟩ := hW
  have hA : DataW.TrodAll enc Tryz.prog W 0 (fun _ => true) true Tryz.f8.params.toList args.toList ds p := hA0
  rw [Tryz.params8] at hA hval
  obtain ⟨v0, vs0, d0, ds0, p0, q0, hargs, rfl, rfl, h0, r0⟩ := trodAll_cons hA
  obtain ⟨v1, vs1, d1, ds1, p1, q1, rfl, rfl, rfl, h1, r1⟩ := trodAll_cons r0
  obtain ⟨rfl, rfl, rfl⟩ := trodAll_nil r1
  obtain rfl : args = #[v0, v1] := by cases args; simp_all
  obtain ⟨rfl, rfl⟩ := trodVars_none hV
  have k0 := h0
  have lt0 : ∀ x ∈ p0, x.block < W.heap.size := by obtain ⟨m, hm⟩ := k0; exact DataW.trod_lt m _ _ _ hm
  have k1 := h1
  have lt1 : ∀ x ∈ p1, x.block < W.heap.size := by obtain ⟨m, hm⟩ := k1; exact DataW.trod_lt m _ _ _ hm
  obtain ⟨a0, c0, l0, rfl, hr0, hi0, -⟩ := open_ints_any Tryz.underlying26 h0 (okWide_slice Tryz.underlying26 (hval 0 26 v0 rfl rfl))
  obtain ⟨a1, c1, l1, rfl, hr1, hi1, -⟩ := open_ints_any Tryz.underlying70 h1 (okWide_slice Tryz.underlying70 (hval 1 70 v1 rfl rfl))
  clear hA0 hval0
  refine (lawIntervals W a0 a1 c0 c1 l0 l1 hr0 hi0 hr1 hi1 (laid_of hL)).mono fun e W' ⟨he, bel⟩ => ?_
  subst he
  exact ⟨_, rfl, _, _, _, [], _, [], hW', trodAll_mk1 (shut_bool Tryz.underlying4 _), (trodAll_cons_mk (Below.trod laidOut (by kernel_rfl) (of_decide_eq_true (by kernel_rfl)) k0 bel lt0) (trodAll_cons_mk (Below.trod laidOut (by kernel_rfl) (of_decide_eq_true (by kernel_rfl)) k1 bel lt1) trodAll_mk0)), rfl, bel.frame _, fun h => by cases h⟩

theorem sizeIntervals_row : Rows.SizeIntervalsSaid :=
  OpenClaim.holds_of_wide 8 Tryz.f8 rfl rfl rfl rfl rfl rfl rfl ⟨rfl, rfl, rfl, rfl, rfl⟩ rfl rfl rfl rfl rfl (by kernel_rfl) Tryz.func8 (by kernel_rfl)
    (of_decide_eq_true (by kernel_rfl)) (by unfold Func.isWrapper; first | (rw [if_pos (by decide +kernel)]; kernel_rfl) | (rw [if_neg (by decide +kernel)]; exact ⟨rfl, rfl⟩))
    (fun os started H enc _ => intervals_lifted os started H enc)

theorem sizeIntervals_holds : Rows.SizeIntervalsCardSaid :=
  Claim7.holds_tied_plain_at .later [] [.data, .data, .data, .sentinel, .sentinel] true (true, "9d0d2a1671fb7254a0d6cd7f535de0290e91414b206b40d6b5ae62423c22e5c1") true
    sizeIntervals_row (fun _ h => by cases h) (by kernel_rfl) (fun _ h => by cases h) sizeIntervals_row_tie rfl ⟨rfl, rfl⟩ (by kernel_rfl) rfl
    (fun f fn hf hfn => by
      obtain rfl : f = 8 := Option.some.inj ((show Tryz.prog.funcNamed "schisma/schismalaw13.SizeIntervals" = some 8 by kernel_rfl).symm.trans hf) |>.symm
      obtain rfl : fn = Tryz.f8 := (Option.some.inj (Tryz.func8.symm.trans hfn)).symm
      exact ⟨by kernel_rfl, fun j t ht => by
        rw [Tryz.params8] at ht
        have hm : t ∈ [26, 70] := by simpa using Array.mem_of_getElem? ht
        have hall : ([26, 70].all fun u => !Tryz.prog.wantsStandIn u) = true := by kernel_rfl
        exact (show Tryz.prog.wantsStandIn t = false by simpa using List.all_eq_true.1 hall t hm)⟩)
    (by kernel_rfl)
#print axioms sizeIntervals_holds
end Go.Proofs.YtlomhfknmhaboaaGreatDoor
