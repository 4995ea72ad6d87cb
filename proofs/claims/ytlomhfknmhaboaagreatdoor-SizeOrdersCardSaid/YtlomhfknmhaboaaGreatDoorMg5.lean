/- Lemmas for the laws of this seat, part 5. -/
import Derived.Lib.SmallJoins
import Derived.Laws.BitsLemmas
import Derived.Test.YtlomhfknmhaboaaGreatDoorMg4
/- size.Text. -/
namespace Go.Proofs.YtlomhfknmhaboaaGreatDoor
open Go.RowKit

theorem infoStr : (Tryz.prog.info? 9).map (fun i => (i.zero, i.size, i.bytes)) = some (some (.string ⟨#[]⟩), 1, 16) := by kernel_rfl
theorem elStr : ElemOf Tryz.prog 127 9 (.string ⟨#[]⟩) 1 16 := ⟨Tryz.underlying127, info_parts infoStr, rfl, by decide⟩

theorem quiet_eqlQ {C : World → Prop} {K : Act → Prop} {a : Act} {o : Oper} (x y : Operand) (r : TypeId) (p q : Rat) (h : o.op = .binOp .eql 30 x y r) (hx : a.eval x = .agg #[.string (itx p.num), .string (dec p.den)]) (hy : a.eval y = .agg #[.string (itx q.num), .string (dec q.den)])
    (hk : K (a.put o.dst (.bool (decide (p = q))))) : o.quiet Tryz.prog a C K :=
  ⟨_, fun w _ => by
    unfold Oper.quietAt execOp
    rw [h]
    simp only [Sem.run_bind, hx, hy, guardQ_run, eqlQ_run, Result.andThen_ok, Sem.run_pure, qs_beq]
    exact ⟨rfl, rfl⟩, hk⟩

theorem numberR_regrown (w : World) (z : Int) (q1 : -9223372036854775808 ≤ z) (q2 : z ≤ 9223372036854775807) (L : Laid w) :
    ∀ d os, Calls Tryz.prog 65 #[.int .i64 z] (Go.Sort.grow (redrawn w d) os) fun e w'' => e = .returned (fr (z : Rat)) ∧ ∃ p : Regrown, w'' = Go.Sort.grow (redrawn w p.d) p.os := fun d os =>
  Calls.regrown_of (numberR _ z q1 q2 (L.below (below_regrown w d os)))

theorem join_le (xs : List ByteArray) (sep : List UInt8) (B : Nat) (h : ∀ x ∈ xs, x.size ≤ B) : (Lib.join (xs.map (·.data.toList)) sep).length ≤ xs.length * (B + sep.length) := by
  have hl : ∀ ys : List ByteArray, (∀ x ∈ ys, x.size ≤ B) → Lib.lens (ys.map (·.data.toList)) ≤ ys.length * B := by
    intro ys
    induction ys with
    | nil => intro _; simp [Lib.lens]
    | cons y ys ih =>
      intro hy
      have h1 := ih fun x hx => hy x (List.mem_cons_of_mem _ hx)
      have h2 : y.data.toList.length ≤ B := hy y List.mem_cons_self
      have e : Lib.lens ((y :: ys).map (·.data.toList)) = y.data.toList.length + Lib.lens (ys.map (·.data.toList)) := by simp [Lib.lens]
      rw [e, List.length_cons, Nat.add_mul]
      omega
  cases xs with
  | nil => simp [Lib.join_nil]
  | cons x r =>
    have h1 := hl (x :: r) h
    rw [List.map_cons] at h1
    rw [List.map_cons, Lib.join_length, List.length_map, List.length_cons, Nat.mul_add, Nat.add_mul r.length 1 sep.length, Nat.mul_comm r.length]
    rw [List.length_cons] at h1
    omega

theorem txQ_size0 {q : Rat} (h2 : Sm 30 q) : (txQ q).size ≤ 62 := by
  have c2 := itx_size q.num 30 (by decide) h2.1
  have c3 := (size_lt q.den 30 (by decide)).2 h2.2
  unfold txQ
  split
  · omega
  · rw [ByteArray.size_append, ByteArray.size_append]
    have : (ByteArray.mk #[47]).size = 1 := rfl
    omega
theorem txQ_size {q : Rat} (h2 : Sm 30 q) : (txQ q).size ≤ 100 := Nat.le_trans (txQ_size0 h2) (by decide)

theorem txL_size {ps : List Int} {l : List Rat} (hp : ∀ p ∈ ps, 2 ≤ p ∧ p ≤ 97) (hl : ∀ q ∈ l, Sm 30 q) : ∀ s ∈ txL ps l, s.size ≤ 100 := by
  intro s hs
  unfold txL at hs
  obtain ⟨⟨p, q⟩, hx, he⟩ := List.mem_filterMap.1 hs
  have h1 := hp p (List.of_mem_zip hx).1
  have h2 := hl q (List.of_mem_zip hx).2
  have c1 := itx_size p 2 (by decide) (by omega)
  have c2 := itx_size q.num 30 (by decide) h2.1
  have c3 := (size_lt q.den 30 (by decide)).2 h2.2
  have c4 := txQ_size0 h2
  have e1 : (ByteArray.mk #[94]).size = 1 := rfl
  have e2 : (ByteArray.mk #[94, 40]).size = 2 := rfl
  have e3 : (ByteArray.mk #[41]).size = 1 := rfl
  simp only at he
  split at he
  · cases he
  · injection he with he
    subst he
    unfold txP
    split
    · omega
    · split
      · rw [ByteArray.size_append, ByteArray.size_append]; omega
      · rw [ByteArray.size_append, ByteArray.size_append, ByteArray.size_append]; omega

theorem itoa_any (w : World) (z : Int) (h0 : -9223372036854775808 ≤ z) (h1 : z ≤ 9223372036854775807) (L : Laid w) : Gives Tryz.prog 89 #[.int .i64 z] w (.string (itx z)) := by
  refine (Tryz.strconv_Itoa z h0 h1 w L.tab).mono ?_
  rintro e w1 ⟨rfl, hw⟩
  exact ⟨rfl, below_of_grow hw⟩

set_option maxRecDepth 100000 in
set_option maxHeartbeats 16000000 in
theorem text_ok (w : World) (ps : List Int) (a0 a1 : Option Addr) (c0 c1 : Nat) (l : List Rat) (A : SizeOk w ps a0 a1 l 30) (hp : pcode ps = 0) (hps : ps.length ≤ 100) (L : Laid w) :
    Gives Tryz.prog 45 #[.slice a0 ps.length c0, .slice a1 l.length c1] w (.tuple #[.string (txS ps l), .int .i64 0]) := by
  unfold Gives
  have HA := Lib.hid A
  have HL := Lib.hid L
  have hc : ccode ps (l.map qs) = 0 := by unfold ccode; rw [if_pos hp, scode_ok A.sm A.len]
  have hk := sizeCheck_any w a0 a1 c0 c1 ps (l.map qs) A.rp A.i64 (by omega) A.rl (by rw [List.length_map, A.len]; omega) (ssz_ok A.sm) L
  rw [hc, List.length_map, A.len] at hk
  rw [A.len]
  have Hk := Lib.hid hk
  have Hpl : Hid (l.length = ps.length) := A.len
  have Hrp := Lib.hid A.rp
  have Hrl := Lib.hid A.rl
  have Hv : Hid (txS ps l = if (txL ps l).length = 0 then ⟨#[49]⟩ else ⟨(Lib.join ((txL ps l).map (·.data.toList)) [32]).toArray⟩) := Lib.hid rfl
  generalize txS ps l = vv at *
  clear A L hc hk hp
  generalize hn : ps.length = n at *
  have Hn := Lib.hid hn
  clear hn
  go_enter Tryz.func45, Tryz.ntmps45
  go_wp2_with fail
  refine Calls.mono Hk.out ?_
  rintro e w1 ⟨rfl, hb⟩
  have B1 := Lib.hid hb
  clear hb Hk
  go_wp2_with fail
  go_loopw [7, 19] (fun o i wr => ∃ (k : Nat) (b : Option Addr) (d : Nat), k ≤ n ∧ i = .int .i64 k ∧ o = .slice b (txL (ps.take k) (l.take k)).length d ∧ Hid (wr.ownsRow w.heap.size 9 1 (.slice b (txL (ps.take k) (l.take k)).length d) (txL (ps.take k) (l.take k)).length (strs (txL (ps.take k) (l.take k)))) ∧ Hid (Below w.heap.size w wr)) (fun _ i _ => n - (intOf i).toNat)
  case atStart => exact ⟨0, none, 0, Nat.zero_le _, rfl, rfl, World.ownsRow_nil .., B1⟩
  case round =>
    clear B1
    obtain ⟨k, b, d, hk, rfl, rfl, OWN, B⟩ := hrel
    by_cases hlt : k < n
    · have hlt' : (k : Int) < n := by omega
      have hkp : k < ps.length := by rw [Hn.out]; exact hlt
      have hkl : k < l.length := by rw [Hpl.out]; exact hlt
      obtain ⟨bb, off, rfl, hb, hcells⟩ := Hrl.out.open (by rw [cellsQ_length]; omega)
      obtain ⟨x0, x1⟩ := cellsS_rd hcells k (by rw [List.length_map]; exact hkl)
      rw [← B.out.cell (p := ⟨bb, off + k * 2, none⟩) hb, qs_getD _ k hkl] at x0
      rw [← B.out.cell (p := ⟨bb, off + k * 2 + 1, none⟩) hb, qs_getD _ k hkl] at x1
      obtain ⟨bp, op, rfl, hbp, hcp⟩ := Hrp.out.open (by rw [ints_length]; omega)
      have Hcp : Hid (w.cell? ⟨bp, op + k, none⟩ = some (.int .i64 ps[k])) := hcp k _ (ints_get ps k hkp)
      have Hsucc := Lib.hid (txL_succ ps l k hkp hkl)
      have hsm := HA.out.sm _ (List.getElem_mem hkl)
      have hpr := HA.out.pr _ (List.getElem_mem hkp)
      have Hit : Hid (∀ W, Below w.heap.size w W → Gives Tryz.prog 89 #[.int .i64 ps[k]] W (.string (itx ps[k]))) := fun W hW => itoa_any W _ (by omega) (by omega) (HL.out.below hW)
      have Htx : Hid (∀ W : World, Gives Tryz.prog 90 #[fr l[k]] W (.string (txQ l[k]))) := fun W => textR W l[k] (hsm.le (by decide))
      have Hnum : Hid (∀ W, Below w.heap.size w W → ∀ d os, Calls Tryz.prog 65 #[.int .i64 1] (Go.Sort.grow (redrawn W d) os) fun e w'' => e = .returned (fr (1 : Rat)) ∧ ∃ p : Regrown, w'' = Go.Sort.grow (redrawn W p.d) p.os) := fun W hW => numberR_regrown W 1 (by decide) (by decide) (HL.out.below hW)
      have Hsg : Hid (∀ W : World, Gives Tryz.prog 54 #[.string (itx l[k].num)] W (.int .i64 l[k].num.sign)) := fun W => sign_any W _
      have hz := itx_isz l[k].num
      have ho := is_one l[k].den
      have hs1 : (itx ps[k]).size ≤ 100 := by have := itx_size ps[k] 2 (by decide) (by omega); omega
      have hs2 : (txQ l[k]).size ≤ 100 := txQ_size hsm
      clear hcells hcp hsm
      generalize hq : l[k] = q at *
      generalize ps[k] = p at *
      unfold txP at Hsucc
      unfold fr fv at Htx Hnum
      clear hq
      simp only [qs] at x0 x1
      generalize txQ q = tx at *
      have B0 := Lib.hid (B.out.alloc B.out.size (.cells #[.string (itx q.num), .string (dec q.den)] 30))
      have Hwr := Lib.hid ((Below.refl wr.heap.size wr).alloc (Nat.le_refl _) (.cells #[.string (itx q.num), .string (dec q.den)] 30))
      have N0 := Lib.hid (heap_at wr #[.string (itx q.num), .string (dec q.den)] 30 _ rfl)
      have OWN0 := Lib.hid (own_below OWN.out Hwr.out (Nat.le_refl _))
      have Hcp0 := (B0.out.cell (p := ⟨bp, op + k, none⟩) hbp).trans Hcp.out
      have H0 := Lib.hid (show ((0 : Int) ≤ k ∧ (k : Int) < n) from ⟨by omega, hlt'⟩)
      go_wp2_with fail
      generalize wr.alloc (.cells #[.string (itx q.num), .string (dec q.den)] 30) = W0 at *
      clear x0 x1 OWN B Hwr
      refine Calls.mono (Hit.out _ B0.out) ?_
      rintro e w2 ⟨rfl, hb2⟩
      have B2 := Lib.hid (B0.out.trans (hb2.mono B0.out.size))
      have N2 := Lib.hid (heap_kept N0.out hb2 (Nat.le_refl _))
      have OWN2 := Lib.hid (own_below OWN0.out hb2 (Nat.le_refl _))
      clear hb2 Hit N0 OWN0 B0 Hcp0
      obtain ⟨k0, k1, -, -⟩ := two_cells N2.out
      by_cases hq0 : q.num = 0
      · rw [decide_eq_true hq0] at hz
        rw [if_pos hq0, List.append_nil] at Hsucc
        clear hq0
        go_wp2_with fail
        go_roundw
        case rel => exact ⟨k + 1, b, d, by omega, by go_num, by rw [Hsucc.out], by rw [Hsucc.out]; exact OWN2, B2⟩
        case measure => simp [intOf]; omega
      · rw [decide_eq_false hq0] at hz
        rw [if_neg hq0] at Hsucc
        clear hq0
        have q0 := cell_regrown k0
        have q1 := cell_regrown k1
        have hN := Hnum.out _ B2.out
        go_wp2_with fail
        clear k0 k1 Hnum
        refine wp_region_quiet_below (by kernel_rfl) (by kernel_rfl) ?_
        repeat (first | go_big_quiet_step (with_reducible exact hN _ _) | quiet_step (with_reducible exact hN _ _))
        refine BigFrame.wpQuiet_want rfl fun K hK => quiet_eqlQ _ _ _ q 1 rfl rfl rfl (hK _ ?_)
        repeat (first | go_big_quiet_step (with_reducible exact hN _ _) | quiet_step (with_reducible exact hN _ _))
        refine wpQuiet_nil ?_
        intro w3 hw3
        obtain ⟨⟨dq, osq⟩, rfl⟩ := hw3
        have W3 := Lib.hid (below_regrown w2 dq osq)
        have B3 := Lib.hid (B2.out.trans (W3.out.mono B2.out.size))
        have N3 := Lib.hid (heap_kept N2.out W3.out (Nat.le_refl _))
        have OWN3 := Lib.hid (own_below OWN2.out W3.out (Nat.le_refl _))
        clear W3 hN q0 q1 N2 OWN2 B2
        generalize Go.Sort.grow (redrawn w2 dq) osq = w3 at *
        obtain ⟨k0, k1, -, -⟩ := two_cells N3.out
        by_cases hq1 : q = 1
        · rw [decide_eq_true hq1]
          rw [if_pos hq1] at Hsucc
          clear hq1
          have Hlen := Lib.hid (txL_length (ps.take k) (l.take k))
          have hLk : (txL (ps.take k) (l.take k)).length ≤ k := by have := Hlen.out; rw [List.length_take] at this; omega
          go_wp2_with (at_builtin; refine wpList_append_one rfl (.tmp 58) (.tmp 60) 127 rfl elStr _ (.string _) rfl rfl OWN3.out B3.out.size rfl (by omega) (by omega) ?_)
          intro v' w9 hown9 hg9 hat9
          have Hb9 : Hid (Below w.heap.size w w9) := (B3.out.alloc B3.out.size _).grown hg9 (by simp; have := B3.out.size; omega) (fun k hk => (OWN3.out.lt k hk).1)
          obtain ⟨b9, d9, rfl⟩ := own_form hown9
          have Hown9 := Lib.hid hown9
          clear hown9 hg9 hat9
          go_wp2_with fail
          go_roundw
          case rel =>
            refine ⟨k + 1, b9, d9, by omega, by go_num, ?_, ?_, Hb9⟩
            · rw [Hsucc.out, List.length_append]; rfl
            · show World.ownsRow ..
              rw [Hsucc.out, strs_append, List.length_append]
              exact Hown9.out
          case measure => simp [intOf]; omega
        · rw [decide_eq_false hq1]
          rw [if_neg hq1] at Hsucc
          clear hq1
          by_cases hd : q.den = 1
          · rw [decide_eq_true hd] at ho
            have Hd := Lib.hid hd
            clear hd
            go_wp2_with fail
            refine Calls.mono (Hsg.out _) ?_
            rintro e w4 ⟨rfl, hb4⟩
            have B4 := Lib.hid (B3.out.trans (hb4.mono B3.out.size))
            have N4 := Lib.hid (heap_kept N3.out hb4 (Nat.le_refl _))
            have OWN4 := Lib.hid (own_below OWN3.out hb4 (Nat.le_refl _))
            clear hb4 N3 OWN3 B3 Hsg k0 k1
            obtain ⟨k0, k1, -, -⟩ := two_cells N4.out
            by_cases hp0 : 0 < q.num
            · rw [if_pos ⟨Hd.out, hp0⟩] at Hsucc
              rw [Int.sign_eq_one_of_pos hp0]
              clear hp0 Hd
              go_wp2_with fail
              refine Calls.mono (Htx.out _) ?_
              rintro e w5 ⟨rfl, hb5⟩
              have B5 := Lib.hid (B4.out.trans (hb5.mono B4.out.size))
              have OWN5 := Lib.hid (own_below OWN4.out hb5 (Nat.le_refl _))
              clear hb5 N4 OWN4 B4 Htx k0 k1
              have Hlen := Lib.hid (txL_length (ps.take k) (l.take k))
              have hLk : (txL (ps.take k) (l.take k)).length ≤ k := by have := Hlen.out; rw [List.length_take] at this; omega
              go_wp2_with (at_builtin; refine wpList_append_one rfl (.tmp 58) (.tmp 60) 127 rfl elStr _ (.string _) rfl rfl OWN5.out B5.out.size rfl (by omega) (by omega) ?_)
              intro v' w9 hown9 hg9 hat9
              have Hb9 : Hid (Below w.heap.size w w9) := (B5.out.alloc B5.out.size _).grown hg9 (by simp; have := B5.out.size; omega) (fun k hk => (OWN5.out.lt k hk).1)
              obtain ⟨b9, d9, rfl⟩ := own_form hown9
              have Hown9 := Lib.hid hown9
              clear hown9 hg9 hat9
              go_wp2_with fail
              go_roundw
              case rel =>
                refine ⟨k + 1, b9, d9, by omega, by go_num, ?_, ?_, Hb9⟩
                · rw [Hsucc.out, List.length_append]; rfl
                · show World.ownsRow ..
                  rw [Hsucc.out, strs_append, List.length_append]
                  exact Hown9.out
              case measure => simp [intOf]; omega
            · rw [if_neg (fun h => hp0 h.2)] at Hsucc
              have hsg : ¬ q.num.sign > 0 := by
                intro h
                exact hp0 (Int.sign_pos_iff.1 h)
              generalize q.num.sign = sg at *
              clear hp0 Hd
              go_wp2_with fail
              refine Calls.mono (Htx.out _) ?_
              rintro e w5 ⟨rfl, hb5⟩
              have B5 := Lib.hid (B4.out.trans (hb5.mono B4.out.size))
              have OWN5 := Lib.hid (own_below OWN4.out hb5 (Nat.le_refl _))
              clear hb5 N4 OWN4 B4 Htx k0 k1
              have Hlen := Lib.hid (txL_length (ps.take k) (l.take k))
              have hLk : (txL (ps.take k) (l.take k)).length ≤ k := by have := Hlen.out; rw [List.length_take] at this; omega
              go_wp2_with (at_builtin; refine wpList_append_one rfl (.tmp 58) (.tmp 60) 127 rfl elStr _ (.string _) rfl rfl OWN5.out B5.out.size rfl (by omega) (by omega) ?_)
              intro v' w9 hown9 hg9 hat9
              have Hb9 : Hid (Below w.heap.size w w9) := (B5.out.alloc B5.out.size _).grown hg9 (by simp; have := B5.out.size; omega) (fun k hk => (OWN5.out.lt k hk).1)
              obtain ⟨b9, d9, rfl⟩ := own_form hown9
              have Hown9 := Lib.hid hown9
              clear hown9 hg9 hat9
              go_wp2_with fail
              go_roundw
              case rel =>
                refine ⟨k + 1, b9, d9, by omega, by go_num, ?_, ?_, Hb9⟩
                · rw [Hsucc.out, List.length_append]; rfl
                · show World.ownsRow ..
                  rw [Hsucc.out, strs_append, List.length_append]
                  exact Hown9.out
              case measure => simp [intOf]; omega
          · rw [decide_eq_false hd] at ho
            rw [if_neg (fun h => hd h.1)] at Hsucc
            clear hd
            go_wp2_with fail
            refine Calls.mono (Htx.out _) ?_
            rintro e w5 ⟨rfl, hb5⟩
            have B5 := Lib.hid (B3.out.trans (hb5.mono B3.out.size))
            have OWN5 := Lib.hid (own_below OWN3.out hb5 (Nat.le_refl _))
            clear hb5 N3 OWN3 B3 Htx k0 k1
            have Hlen := Lib.hid (txL_length (ps.take k) (l.take k))
            have hLk : (txL (ps.take k) (l.take k)).length ≤ k := by have := Hlen.out; rw [List.length_take] at this; omega
            go_wp2_with (at_builtin; refine wpList_append_one rfl (.tmp 58) (.tmp 60) 127 rfl elStr _ (.string _) rfl rfl OWN5.out B5.out.size rfl (by omega) (by omega) ?_)
            intro v' w9 hown9 hg9 hat9
            have Hb9 : Hid (Below w.heap.size w w9) := (B5.out.alloc B5.out.size _).grown hg9 (by simp; have := B5.out.size; omega) (fun k hk => (OWN5.out.lt k hk).1)
            obtain ⟨b9, d9, rfl⟩ := own_form hown9
            have Hown9 := Lib.hid hown9
            clear hown9 hg9 hat9
            go_wp2_with fail
            go_roundw
            case rel =>
              refine ⟨k + 1, b9, d9, by omega, by go_num, ?_, ?_, Hb9⟩
              · rw [Hsucc.out, List.length_append]; rfl
              · show World.ownsRow ..
                rw [Hsucc.out, strs_append, List.length_append]
                exact Hown9.out
            case measure => simp [intOf]; omega
    · have hlt' : ¬ (k : Int) < n := by omega
      have hkn : k = n := by omega
      subst hkn
      rw [show ps.take k = ps by rw [← Hn.out, List.take_length], show l.take k = l by rw [← Hpl.out, List.take_length]] at OWN ⊢
      have Hll := Lib.hid (txL_length ps l)
      have Hjl : Hid ((Lib.join ((txL ps l).map (·.data.toList)) [32]).length ≤ (txL ps l).length * 101) := join_le (txL ps l) [32] 100 (txL_size HA.out.pr HA.out.sm)
      generalize hx : txL ps l = xs at *
      clear hx
      by_cases h0 : xs.length = 0
      · rw [if_pos h0] at Hv
        have h0' : ((xs.length : Int) == 0) = true := by rw [h0]; rfl
        clear h0
        go_wp2_with fail
        go_ret2
        exact ⟨by rw [Hv.out]; rfl, B.out⟩
      · rw [if_neg h0] at Hv
        have h0' : ((xs.length : Int) == 0) = false := by rw [beq_eq_false_iff_ne]; omega
        obtain ⟨g, cap, hv, h1, h2, h3, h4, h5⟩ := own_open OWN.out (by omega)
        simp only [Value.slice.injEq] at hv
        obtain ⟨rfl, -, rfl⟩ := hv
        have Hj : Hid (Calls Tryz.prog 91 #[.slice (some ⟨g, 0, none⟩) xs.length d, .string ⟨#[32]⟩] wr fun e w' => e = .returned (.string ⟨(Lib.join (xs.map (·.data.toList)) [32]).toArray⟩) ∧ Below wr.heap.size wr w') := by
          have hlen := Hll.out
          exact Go.Proofs.Any.strings_Join laysJ extraJ g 0 d xs ⟨#[32]⟩ wr (by
            intro j x hj
            have hjl := (List.getElem?_eq_some_iff.1 hj).1
            rw [Nat.zero_add, h4 j (by omega)]
            simp [strs, hj]) h2 (by rw [Hpl.out] at hlen; omega) h3 (by show (Lib.join (xs.map (·.data.toList)) [32]).length ≤ _; rw [Hpl.out] at hlen; have := Hjl.out; omega)
        clear h0 h4 h5 h3
        go_wp2_with fail
        refine Calls.mono Hj.out ?_
        rintro e w9 ⟨rfl, hb⟩
        have B9 := Lib.hid (B.out.trans (hb.mono B.out.size))
        clear hb Hj
        go_wp2_with fail
        go_ret2
        exact ⟨by rw [Hv.out]; rfl, B9.out⟩

end Go.Proofs.YtlomhfknmhaboaaGreatDoor

/- The known example of layer 13: what its calls return. -/
namespace Go.Proofs.YtlomhfknmhaboaaGreatDoor
open Go.RowKit

theorem num_small (n : Nat) (h : n ≤ 100000000000000000000) : Num n := num_pow (D := 21) (by omega) (by decide) (by decide)

theorem partR (w : World) (n : Int) (d : Nat) (q1 : -9223372036854775808 ≤ n) (q2 : n ≤ 9223372036854775807) (q3 : 0 < d) (q4 : d ≤ 1000000) (L : Laid w) :
    Gives Tryz.prog 18 #[.int .i64 n, .int .i64 d] w (fr (mkRat n d)) :=
  part_of w n d _ fun W hW => by
    have := ofi_frac W n d q1 q2 (by omega) (num_small _ (by omega)) (num_small _ (by omega)) q3 (num_small _ (by omega)) (num_small _ (by omega)) (L.below hW)
    rw [redV_rat n d (by omega)] at this
    exact this

theorem sizeOk_of (W : World) (ps : List Int) (A0 A1 : Option Addr) (l : List Rat) (D : Nat) (hl : l.length = ps.length) (hn : ps.length ≤ 100) (hp : ∀ p ∈ ps, 2 ≤ p ∧ p ≤ 97) (hd : D ≤ 1000) (h0 : Rd W A0 (ints ps)) (h1 : Rd W A1 (cellsQ l)) (hs : ∀ q ∈ l, Sm D q) : SizeOk W ps A0 A1 l D :=
  ⟨h0, h1, hl, hn, hp, hs, hd⟩

instance (D : Nat) (q : Rat) : Decidable (Sm D q) := by unfold Sm; infer_instance

def kq (n : Int) (d : Nat) : Rat := mkRat n d
def kComma : List Rat := [kq (-4) 1, kq 4 1, kq (-1) 1]
def kFifth : List Rat := [kq (-1) 1, kq 1 1, kq 0 1]
def kOctave : List Rat := [kq 1 1, kq 0 1, kq 0 1]
def kQuarter : List Rat := [kq 0 1, kq 0 1, kq 1 4]
def kLast : List Rat := [kq 1 2, kq (-1) 4, kq 1 1]
def kTwelve : List Rat := sumQ 3 [kFifth] [kq 12 1]

def sm30 (l : List Rat) : Bool := l.all fun q => decide (Sm 30 q)
theorem sm30_of {l : List Rat} (h : sm30 l = true) : ∀ q ∈ l, Sm 30 q := fun q hq => of_decide_eq_true (List.all_eq_true.1 h q hq)

theorem kp0 : pcode [2, 3, 5] = 0 := by decide +kernel
theorem kps : ∀ p ∈ [(2 : Int), 3, 5], 2 ≤ p ∧ p ≤ 97 := by decide

theorem kOk (W : World) (A0 A1 : Option Addr) (l : List Rat) (hl : l.length = 3) (h0 : Rd W A0 (ints [2, 3, 5])) (h1 : Rd W A1 (cellsQ l)) (hs : sm30 l = true) : SizeOk W [2, 3, 5] A0 A1 l 30 :=
  sizeOk_of W _ A0 A1 l 30 hl (by decide) kps (by decide) h0 h1 (sm30_of hs)

theorem kCompare (W : World) (A0 A1 A2 : Option Addr) (h0 : Rd W A0 (ints [2, 3, 5])) (h1 : Rd W A1 (cellsQ kQuarter)) (h2 : Rd W A2 (cellsQ kFifth)) (L : Laid W) :
    Gives Tryz.prog 21 #[.slice A0 3 3, .slice A1 3 3, .slice A2 3 3] W (.tuple #[.int .i64 (-1), .int .i64 0]) := by
  have := Compare_quick W [2, 3, 5] A0 A1 A2 3 3 3 kQuarter kFifth (kOk W A0 A1 _ rfl h0 h1 (by decide +kernel)) (kOk W A0 A2 _ rfl h0 h2 (by decide +kernel)) kp0 L (.inr (by decide +kernel))
  rw [show sgnQ [2, 3, 5] (sumQ ([2, 3, 5] : List Int).length [kQuarter, kFifth] [1, -1]) = -1 by decide +kernel] at this
  exact this

theorem kFloor (W : World) (A0 A1 A2 : Option Addr) (h0 : Rd W A0 (ints [2, 3, 5])) (h1 : Rd W A1 (cellsQ kOctave)) (h2 : Rd W A2 (cellsQ kComma)) (L : Laid W) :
    Gives Tryz.prog 30 #[.slice A0 3 3, .slice A1 3 3, .slice A2 3 3] W (.tuple #[.string (itx 55), .int .i64 0]) := by
  refine Floor_of W [2, 3, 5] A0 A1 A2 3 3 3 kOctave kComma (kOk W A0 A1 _ rfl h0 h1 (by decide +kernel)) (kOk W A0 A2 _ rfl h0 h2 (by decide +kernel)) kp0 L (by decide +kernel) 55 fun W' hW => ?_
  exact floor_quick W' [2, 3, 5] A0 A1 A2 3 3 3 30 kOctave kComma ((kOk W A0 A1 _ rfl h0 h1 (by decide +kernel)).below hW) ((kOk W A0 A2 _ rfl h0 h2 (by decide +kernel)).below hW) (by decide) (L.below hW)
    (by decide +kernel) (by decide +kernel) (by decide +kernel) (by decide +kernel) (by decide +kernel) (by decide +kernel) (by decide +kernel) (by decide +kernel) (by decide +kernel) (by decide +kernel) (by decide +kernel) (by decide +kernel) (by decide +kernel) 55 (by decide +kernel) (by decide +kernel) (by decide)

theorem kScale (W : World) (A0 A1 : Option Addr) (h0 : Rd W A0 (ints [2, 3, 5])) (h1 : Rd W A1 (cellsQ kFifth)) (L : Laid W) :
    Calls Tryz.prog 23 #[.slice A0 3 3, .slice A1 3 3, fr (kq 12 1)] W fun e w' => ∃ a c, e = .returned (.tuple #[.slice a 3 c, .int .i64 0]) ∧ Rd w' a (cellsQ kTwelve) ∧ Below W.heap.size W w' :=
  scale_ok W [2, 3, 5] A0 A1 3 3 kFifth (kq 12 1) (kOk W A0 A1 _ rfl h0 h1 (by decide +kernel)) kp0 L (by decide +kernel) (sm30_of (by decide +kernel))

theorem kRound (W : World) (A0 A1 A2 : Option Addr) (c : Nat) (h0 : Rd W A0 (ints [2, 3, 5])) (h1 : Rd W A1 (cellsQ kTwelve)) (h2 : Rd W A2 (cellsQ kOctave)) (L : Laid W) :
    Gives Tryz.prog 31 #[.slice A0 3 3, .slice A1 3 c, .slice A2 3 3] W (.tuple #[.string (itx 7), .int .i64 0]) := by
  refine Round_of W [2, 3, 5] A0 A1 A2 3 c 3 kTwelve kOctave (kOk W A0 A1 _ (by decide +kernel) h0 h1 (by decide +kernel)) (kOk W A0 A2 _ rfl h0 h2 (by decide +kernel)) kp0 L (by decide +kernel) 7 fun W' a3 a4 c3 c4 X Y L' => ?_
  exact floor_quick W' [2, 3, 5] A0 a3 a4 3 c3 c4 _ _ _ X Y (by decide) L'
    (by decide +kernel) (by decide +kernel) (by decide +kernel) (by decide +kernel) (by decide +kernel) (by decide +kernel) (by decide +kernel) (by decide +kernel) (by decide +kernel) (by decide +kernel) (by decide +kernel) (by decide +kernel) (by decide +kernel) 7 (by decide +kernel) (by decide +kernel) (by decide)

theorem kText (W : World) (A0 A1 : Option Addr) (h0 : Rd W A0 (ints [2, 3, 5])) (h1 : Rd W A1 (cellsQ kLast)) (L : Laid W) :
    Gives Tryz.prog 45 #[.slice A0 3 3, .slice A1 3 3] W (.tuple #[.string ⟨#[50, 94, 40, 49, 47, 50, 41, 32, 51, 94, 40, 45, 49, 47, 52, 41, 32, 53]⟩, .int .i64 0]) := by
  have := text_ok W [2, 3, 5] A0 A1 3 3 kLast (kOk W A0 A1 _ rfl h0 h1 (by decide +kernel)) kp0 (by decide) L
  rw [show txS [2, 3, 5] kLast = ⟨#[50, 94, 40, 49, 47, 50, 41, 32, 51, 94, 40, 45, 49, 47, 52, 41, 32, 53]⟩ by decide +kernel] at this
  exact this

end Go.Proofs.YtlomhfknmhaboaaGreatDoor

/- The known example of layer 13 is right. -/
namespace Go.Proofs.YtlomhfknmhaboaaGreatDoor
open Go.RowKit

theorem k55 : ((itx 55).toList == [53, 53]) = true := by decide +kernel
theorem k7 : ((itx 7).toList == [55]) = true := by decide +kernel
theorem rd_ints {w : World} {g : Nat} {l : List Int} {t : TypeId} (h : w.heap[g]? = some (.cells (ints l).toArray t (0, 0))) : Rd w (some ⟨g, 0, none⟩) (ints l) := by
  have := rd_obj h
  simpa using this

set_option maxRecDepth 100000 in
set_option maxHeartbeats 16000000 in
theorem known_ok (w : World) (L : Laid w) : Gives Tryz.prog 12 #[] w (.bool true) := by
  unfold Gives
  have HL := Lib.hid L
  have B0 := Lib.hid (Below.refl w.heap.size w)
  obtain ⟨a, ha⟩ : ∃ x : Rat, x = kq (-4) 1 := ⟨_, rfl⟩
  obtain ⟨b, hb⟩ : ∃ x : Rat, x = kq 4 1 := ⟨_, rfl⟩
  obtain ⟨c, hc⟩ : ∃ x : Rat, x = kq (-1) 1 := ⟨_, rfl⟩
  obtain ⟨e, he⟩ : ∃ x : Rat, x = kq 1 1 := ⟨_, rfl⟩
  obtain ⟨z, hz⟩ : ∃ x : Rat, x = kq 0 1 := ⟨_, rfl⟩
  obtain ⟨q, hq⟩ : ∃ x : Rat, x = kq 1 4 := ⟨_, rfl⟩
  obtain ⟨t, ht⟩ : ∃ x : Rat, x = kq 12 1 := ⟨_, rfl⟩
  obtain ⟨h, hh⟩ : ∃ x : Rat, x = kq 1 2 := ⟨_, rfl⟩
  obtain ⟨m, hm⟩ : ∃ x : Rat, x = kq (-1) 4 := ⟨_, rfl⟩
  have Pa : Hid (∀ W, Below w.heap.size w W → Gives Tryz.prog 18 #[.int .i64 (-4), .int .i64 1] W (fr a)) := fun W hW => by subst ha; exact partR W (-4) 1 (by decide) (by decide) (by decide) (by decide) (L.below hW)
  have Pb : Hid (∀ W, Below w.heap.size w W → Gives Tryz.prog 18 #[.int .i64 4, .int .i64 1] W (fr b)) := fun W hW => by subst hb; exact partR W 4 1 (by decide) (by decide) (by decide) (by decide) (L.below hW)
  have Pc : Hid (∀ W, Below w.heap.size w W → Gives Tryz.prog 18 #[.int .i64 (-1), .int .i64 1] W (fr c)) := fun W hW => by subst hc; exact partR W (-1) 1 (by decide) (by decide) (by decide) (by decide) (L.below hW)
  have Pe : Hid (∀ W, Below w.heap.size w W → Gives Tryz.prog 18 #[.int .i64 1, .int .i64 1] W (fr e)) := fun W hW => by subst he; exact partR W 1 1 (by decide) (by decide) (by decide) (by decide) (L.below hW)
  have Pz : Hid (∀ W, Below w.heap.size w W → Gives Tryz.prog 18 #[.int .i64 0, .int .i64 1] W (fr z)) := fun W hW => by subst hz; exact partR W 0 1 (by decide) (by decide) (by decide) (by decide) (L.below hW)
  have Pq : Hid (∀ W, Below w.heap.size w W → Gives Tryz.prog 18 #[.int .i64 1, .int .i64 4] W (fr q)) := fun W hW => by subst hq; exact partR W 1 4 (by decide) (by decide) (by decide) (by decide) (L.below hW)
  have Pt : Hid (∀ W, Below w.heap.size w W → Gives Tryz.prog 18 #[.int .i64 12, .int .i64 1] W (fr t)) := fun W hW => by subst ht; exact partR W 12 1 (by decide) (by decide) (by decide) (by decide) (L.below hW)
  have Ph : Hid (∀ W, Below w.heap.size w W → Gives Tryz.prog 18 #[.int .i64 1, .int .i64 2] W (fr h)) := fun W hW => by subst hh; exact partR W 1 2 (by decide) (by decide) (by decide) (by decide) (L.below hW)
  have Pm : Hid (∀ W, Below w.heap.size w W → Gives Tryz.prog 18 #[.int .i64 (-1), .int .i64 4] W (fr m)) := fun W hW => by subst hm; exact partR W (-1) 4 (by decide) (by decide) (by decide) (by decide) (L.below hW)
  obtain ⟨tw, htw⟩ : ∃ x : List Rat, x = kTwelve := ⟨_, rfl⟩
  have HC : Hid (∀ W g0 g1 g2, Below w.heap.size w W → Rd W (some ⟨g0, 0, none⟩) (ints [2, 3, 5]) → Rd W (some ⟨g1, 0, none⟩) (cellsQ [z, z, q]) → Rd W (some ⟨g2, 0, none⟩) (cellsQ [c, e, z]) → Gives Tryz.prog 21 #[.slice (some ⟨g0, 0, none⟩) 3 3, .slice (some ⟨g1, 0, none⟩) 3 3, .slice (some ⟨g2, 0, none⟩) 3 3] W (.tuple #[.int .i64 (-1), .int .i64 0])) := fun W g0 g1 g2 hW h0 h1 h2 => by subst hz; subst hq; subst hc; subst he; exact kCompare W _ _ _ h0 h1 h2 (L.below hW)
  have HF : Hid (∀ W g0 g1 g2, Below w.heap.size w W → Rd W (some ⟨g0, 0, none⟩) (ints [2, 3, 5]) → Rd W (some ⟨g1, 0, none⟩) (cellsQ [e, z, z]) → Rd W (some ⟨g2, 0, none⟩) (cellsQ [a, b, c]) → Gives Tryz.prog 30 #[.slice (some ⟨g0, 0, none⟩) 3 3, .slice (some ⟨g1, 0, none⟩) 3 3, .slice (some ⟨g2, 0, none⟩) 3 3] W (.tuple #[.string (itx 55), .int .i64 0])) := fun W g0 g1 g2 hW h0 h1 h2 => by subst hz; subst ha; subst hb; subst hc; subst he; exact kFloor W _ _ _ h0 h1 h2 (L.below hW)
  have HS : Hid (∀ W g0 g1, Below w.heap.size w W → Rd W (some ⟨g0, 0, none⟩) (ints [2, 3, 5]) → Rd W (some ⟨g1, 0, none⟩) (cellsQ [c, e, z]) → Calls Tryz.prog 23 #[.slice (some ⟨g0, 0, none⟩) 3 3, .slice (some ⟨g1, 0, none⟩) 3 3, fr t] W fun e w' => ∃ a c, e = .returned (.tuple #[.slice a 3 c, .int .i64 0]) ∧ Rd w' a (cellsQ tw) ∧ Below W.heap.size W w') := fun W g0 g1 hW h0 h1 => by subst hz; subst hc; subst he; subst ht; subst htw; exact kScale W _ _ h0 h1 (L.below hW)
  have HR : Hid (∀ W g0 a1 c1 g2, Below w.heap.size w W → Rd W (some ⟨g0, 0, none⟩) (ints [2, 3, 5]) → Rd W a1 (cellsQ tw) → Rd W (some ⟨g2, 0, none⟩) (cellsQ [e, z, z]) → Gives Tryz.prog 31 #[.slice (some ⟨g0, 0, none⟩) 3 3, .slice a1 3 c1, .slice (some ⟨g2, 0, none⟩) 3 3] W (.tuple #[.string (itx 7), .int .i64 0])) := fun W g0 a1 c1 g2 hW h0 h1 h2 => by subst hz; subst he; subst htw; exact kRound W _ _ _ _ h0 h1 h2 (L.below hW)
  have HT : Hid (∀ W g0 g1, Below w.heap.size w W → Rd W (some ⟨g0, 0, none⟩) (ints [2, 3, 5]) → Rd W (some ⟨g1, 0, none⟩) (cellsQ [h, m, e]) → Gives Tryz.prog 45 #[.slice (some ⟨g0, 0, none⟩) 3 3, .slice (some ⟨g1, 0, none⟩) 3 3] W (.tuple #[.string ⟨#[50, 94, 40, 49, 47, 50, 41, 32, 51, 94, 40, 45, 49, 47, 52, 41, 32, 53]⟩, .int .i64 0])) := fun W g0 g1 hW h0 h1 => by subst hh; subst hm; subst he; exact kText W _ _ h0 h1 (L.below hW)
  clear L ha hb hc he hz hq ht hh hm htw
  unfold fr fv at Pa Pb Pc Pe Pz Pq Pt Ph Pm HS
  go_enter Tryz.func12, Tryz.ntmps12
  go_wp2_with fail
  have B1 := Lib.hid (B0.out.alloc B0.out.size (.cells #[.int .i64 2, .int .i64 3, .int .i64 5] 3))
  have Fp := Lib.hid (heap_at w #[.int .i64 2, .int .i64 3, .int .i64 5] 3 _ rfl)
  generalize hg0 : w.heap.size = gp at Fp
  clear hg0 B0
  generalize w.alloc (.cells #[.int .i64 2, .int .i64 3, .int .i64 5] 3) = w1 at *
  refine Calls.mono (Pa.out _ B1.out) ?_
  rintro e_ w2 ⟨rfl, hb_⟩
  have B_w2 := Lib.hid (B1.out.trans (hb_.mono B1.out.size))
  replace Fp := Lib.hid (heap_kept Fp.out hb_ (Nat.le_refl _))
  clear hb_ B1
  go_wp2_with fail
  refine Calls.mono (Pb.out _ B_w2.out) ?_
  rintro e_ w3 ⟨rfl, hb_⟩
  have B_w3 := Lib.hid (B_w2.out.trans (hb_.mono B_w2.out.size))
  replace Fp := Lib.hid (heap_kept Fp.out hb_ (Nat.le_refl _))
  clear hb_ B_w2
  go_wp2_with fail
  refine Calls.mono (Pc.out _ B_w3.out) ?_
  rintro e_ w4 ⟨rfl, hb_⟩
  have B_w4 := Lib.hid (B_w3.out.trans (hb_.mono B_w3.out.size))
  replace Fp := Lib.hid (heap_kept Fp.out hb_ (Nat.le_refl _))
  clear hb_ B_w3
  go_wp2_with fail
  have B_w4b := Lib.hid (B_w4.out.alloc B_w4.out.size (.cells #[.string (itx a.num), .string (dec a.den), .string (itx b.num), .string (dec b.den), .string (itx c.num), .string (dec c.den)] 30))
  have Fc := Lib.hid (heap_at w4 #[.string (itx a.num), .string (dec a.den), .string (itx b.num), .string (dec b.den), .string (itx c.num), .string (dec c.den)] 30 _ rfl)
  replace Fp := Lib.hid (heap_old Fp.out (.cells #[.string (itx a.num), .string (dec a.den), .string (itx b.num), .string (dec b.den), .string (itx c.num), .string (dec c.den)] 30))
  clear B_w4
  generalize hg_ : w4.heap.size = gFc at *
  generalize hw_ : w4.alloc (.cells #[.string (itx a.num), .string (dec a.den), .string (itx b.num), .string (dec b.den), .string (itx c.num), .string (dec c.den)] 30) = w5 at *
  clear hg_ hw_
  refine Calls.mono (Pc.out _ B_w4b.out) ?_
  rintro e_ w6 ⟨rfl, hb_⟩
  have B_w6 := Lib.hid (B_w4b.out.trans (hb_.mono B_w4b.out.size))
  replace Fp := Lib.hid (heap_kept Fp.out hb_ (Nat.le_refl _))
  replace Fc := Lib.hid (heap_kept Fc.out hb_ (Nat.le_refl _))
  clear hb_ B_w4b
  go_wp2_with fail
  refine Calls.mono (Pe.out _ B_w6.out) ?_
  rintro e_ w7 ⟨rfl, hb_⟩
  have B_w7 := Lib.hid (B_w6.out.trans (hb_.mono B_w6.out.size))
  replace Fp := Lib.hid (heap_kept Fp.out hb_ (Nat.le_refl _))
  replace Fc := Lib.hid (heap_kept Fc.out hb_ (Nat.le_refl _))
  clear hb_ B_w6
  go_wp2_with fail
  refine Calls.mono (Pz.out _ B_w7.out) ?_
  rintro e_ w8 ⟨rfl, hb_⟩
  have B_w8 := Lib.hid (B_w7.out.trans (hb_.mono B_w7.out.size))
  replace Fp := Lib.hid (heap_kept Fp.out hb_ (Nat.le_refl _))
  replace Fc := Lib.hid (heap_kept Fc.out hb_ (Nat.le_refl _))
  clear hb_ B_w7
  go_wp2_with fail
  have B_w8b := Lib.hid (B_w8.out.alloc B_w8.out.size (.cells #[.string (itx c.num), .string (dec c.den), .string (itx e.num), .string (dec e.den), .string (itx z.num), .string (dec z.den)] 30))
  have Ff := Lib.hid (heap_at w8 #[.string (itx c.num), .string (dec c.den), .string (itx e.num), .string (dec e.den), .string (itx z.num), .string (dec z.den)] 30 _ rfl)
  replace Fp := Lib.hid (heap_old Fp.out (.cells #[.string (itx c.num), .string (dec c.den), .string (itx e.num), .string (dec e.den), .string (itx z.num), .string (dec z.den)] 30))
  replace Fc := Lib.hid (heap_old Fc.out (.cells #[.string (itx c.num), .string (dec c.den), .string (itx e.num), .string (dec e.den), .string (itx z.num), .string (dec z.den)] 30))
  clear B_w8
  generalize hg_ : w8.heap.size = gFf at *
  generalize hw_ : w8.alloc (.cells #[.string (itx c.num), .string (dec c.den), .string (itx e.num), .string (dec e.den), .string (itx z.num), .string (dec z.den)] 30) = w9 at *
  clear hg_ hw_
  refine Calls.mono (Pe.out _ B_w8b.out) ?_
  rintro e_ w10 ⟨rfl, hb_⟩
  have B_w10 := Lib.hid (B_w8b.out.trans (hb_.mono B_w8b.out.size))
  replace Fp := Lib.hid (heap_kept Fp.out hb_ (Nat.le_refl _))
  replace Fc := Lib.hid (heap_kept Fc.out hb_ (Nat.le_refl _))
  replace Ff := Lib.hid (heap_kept Ff.out hb_ (Nat.le_refl _))
  clear hb_ B_w8b
  go_wp2_with fail
  refine Calls.mono (Pz.out _ B_w10.out) ?_
  rintro e_ w11 ⟨rfl, hb_⟩
  have B_w11 := Lib.hid (B_w10.out.trans (hb_.mono B_w10.out.size))
  replace Fp := Lib.hid (heap_kept Fp.out hb_ (Nat.le_refl _))
  replace Fc := Lib.hid (heap_kept Fc.out hb_ (Nat.le_refl _))
  replace Ff := Lib.hid (heap_kept Ff.out hb_ (Nat.le_refl _))
  clear hb_ B_w10
  go_wp2_with fail
  refine Calls.mono (Pz.out _ B_w11.out) ?_
  rintro e_ w12 ⟨rfl, hb_⟩
  have B_w12 := Lib.hid (B_w11.out.trans (hb_.mono B_w11.out.size))
  replace Fp := Lib.hid (heap_kept Fp.out hb_ (Nat.le_refl _))
  replace Fc := Lib.hid (heap_kept Fc.out hb_ (Nat.le_refl _))
  replace Ff := Lib.hid (heap_kept Ff.out hb_ (Nat.le_refl _))
  clear hb_ B_w11
  go_wp2_with fail
  have B_w12b := Lib.hid (B_w12.out.alloc B_w12.out.size (.cells #[.string (itx e.num), .string (dec e.den), .string (itx z.num), .string (dec z.den), .string (itx z.num), .string (dec z.den)] 30))
  have Fo := Lib.hid (heap_at w12 #[.string (itx e.num), .string (dec e.den), .string (itx z.num), .string (dec z.den), .string (itx z.num), .string (dec z.den)] 30 _ rfl)
  replace Fp := Lib.hid (heap_old Fp.out (.cells #[.string (itx e.num), .string (dec e.den), .string (itx z.num), .string (dec z.den), .string (itx z.num), .string (dec z.den)] 30))
  replace Fc := Lib.hid (heap_old Fc.out (.cells #[.string (itx e.num), .string (dec e.den), .string (itx z.num), .string (dec z.den), .string (itx z.num), .string (dec z.den)] 30))
  replace Ff := Lib.hid (heap_old Ff.out (.cells #[.string (itx e.num), .string (dec e.den), .string (itx z.num), .string (dec z.den), .string (itx z.num), .string (dec z.den)] 30))
  clear B_w12
  generalize hg_ : w12.heap.size = gFo at *
  generalize hw_ : w12.alloc (.cells #[.string (itx e.num), .string (dec e.den), .string (itx z.num), .string (dec z.den), .string (itx z.num), .string (dec z.den)] 30) = w13 at *
  clear hg_ hw_
  refine Calls.mono (Pz.out _ B_w12b.out) ?_
  rintro e_ w14 ⟨rfl, hb_⟩
  have B_w14 := Lib.hid (B_w12b.out.trans (hb_.mono B_w12b.out.size))
  replace Fp := Lib.hid (heap_kept Fp.out hb_ (Nat.le_refl _))
  replace Fc := Lib.hid (heap_kept Fc.out hb_ (Nat.le_refl _))
  replace Ff := Lib.hid (heap_kept Ff.out hb_ (Nat.le_refl _))
  replace Fo := Lib.hid (heap_kept Fo.out hb_ (Nat.le_refl _))
  clear hb_ B_w12b
  go_wp2_with fail
  refine Calls.mono (Pz.out _ B_w14.out) ?_
  rintro e_ w15 ⟨rfl, hb_⟩
  have B_w15 := Lib.hid (B_w14.out.trans (hb_.mono B_w14.out.size))
  replace Fp := Lib.hid (heap_kept Fp.out hb_ (Nat.le_refl _))
  replace Fc := Lib.hid (heap_kept Fc.out hb_ (Nat.le_refl _))
  replace Ff := Lib.hid (heap_kept Ff.out hb_ (Nat.le_refl _))
  replace Fo := Lib.hid (heap_kept Fo.out hb_ (Nat.le_refl _))
  clear hb_ B_w14
  go_wp2_with fail
  refine Calls.mono (Pq.out _ B_w15.out) ?_
  rintro e_ w16 ⟨rfl, hb_⟩
  have B_w16 := Lib.hid (B_w15.out.trans (hb_.mono B_w15.out.size))
  replace Fp := Lib.hid (heap_kept Fp.out hb_ (Nat.le_refl _))
  replace Fc := Lib.hid (heap_kept Fc.out hb_ (Nat.le_refl _))
  replace Ff := Lib.hid (heap_kept Ff.out hb_ (Nat.le_refl _))
  replace Fo := Lib.hid (heap_kept Fo.out hb_ (Nat.le_refl _))
  clear hb_ B_w15
  go_wp2_with fail
  have B_w16b := Lib.hid (B_w16.out.alloc B_w16.out.size (.cells #[.string (itx z.num), .string (dec z.den), .string (itx z.num), .string (dec z.den), .string (itx q.num), .string (dec q.den)] 30))
  have Fq := Lib.hid (heap_at w16 #[.string (itx z.num), .string (dec z.den), .string (itx z.num), .string (dec z.den), .string (itx q.num), .string (dec q.den)] 30 _ rfl)
  replace Fp := Lib.hid (heap_old Fp.out (.cells #[.string (itx z.num), .string (dec z.den), .string (itx z.num), .string (dec z.den), .string (itx q.num), .string (dec q.den)] 30))
  replace Fc := Lib.hid (heap_old Fc.out (.cells #[.string (itx z.num), .string (dec z.den), .string (itx z.num), .string (dec z.den), .string (itx q.num), .string (dec q.den)] 30))
  replace Ff := Lib.hid (heap_old Ff.out (.cells #[.string (itx z.num), .string (dec z.den), .string (itx z.num), .string (dec z.den), .string (itx q.num), .string (dec q.den)] 30))
  replace Fo := Lib.hid (heap_old Fo.out (.cells #[.string (itx z.num), .string (dec z.den), .string (itx z.num), .string (dec z.den), .string (itx q.num), .string (dec q.den)] 30))
  clear B_w16
  generalize hg_ : w16.heap.size = gFq at *
  generalize hw_ : w16.alloc (.cells #[.string (itx z.num), .string (dec z.den), .string (itx z.num), .string (dec z.den), .string (itx q.num), .string (dec q.den)] 30) = w17 at *
  clear hg_ hw_
  have hC := HC.out _ _ _ _ B_w16b.out (rd_obj Fp.out) (rd_obj Fq.out) (rd_obj Ff.out)
  clear HC
  refine Calls.mono (hC) ?_
  rintro e_ w18 ⟨rfl, hb_⟩
  have B_w18 := Lib.hid (B_w16b.out.trans (hb_.mono B_w16b.out.size))
  replace Fp := Lib.hid (heap_kept Fp.out hb_ (Nat.le_refl _))
  replace Fc := Lib.hid (heap_kept Fc.out hb_ (Nat.le_refl _))
  replace Ff := Lib.hid (heap_kept Ff.out hb_ (Nat.le_refl _))
  replace Fo := Lib.hid (heap_kept Fo.out hb_ (Nat.le_refl _))
  replace Fq := Lib.hid (heap_kept Fq.out hb_ (Nat.le_refl _))
  clear hb_ B_w16b
  clear hC Fq
  go_wp2_with fail
  have hF := HF.out _ _ _ _ B_w18.out (rd_obj Fp.out) (rd_obj Fo.out) (rd_obj Fc.out)
  clear HF
  refine Calls.mono (hF) ?_
  rintro e_ w19 ⟨rfl, hb_⟩
  have B_w19 := Lib.hid (B_w18.out.trans (hb_.mono B_w18.out.size))
  replace Fp := Lib.hid (heap_kept Fp.out hb_ (Nat.le_refl _))
  replace Fc := Lib.hid (heap_kept Fc.out hb_ (Nat.le_refl _))
  replace Ff := Lib.hid (heap_kept Ff.out hb_ (Nat.le_refl _))
  replace Fo := Lib.hid (heap_kept Fo.out hb_ (Nat.le_refl _))
  clear hb_ B_w18
  clear hF Fc
  go_wp2_with fail
  refine Calls.mono (Pt.out _ B_w19.out) ?_
  rintro e_ w20 ⟨rfl, hb_⟩
  have B_w20 := Lib.hid (B_w19.out.trans (hb_.mono B_w19.out.size))
  replace Fp := Lib.hid (heap_kept Fp.out hb_ (Nat.le_refl _))
  replace Ff := Lib.hid (heap_kept Ff.out hb_ (Nat.le_refl _))
  replace Fo := Lib.hid (heap_kept Fo.out hb_ (Nat.le_refl _))
  clear hb_ B_w19
  go_wp2_with fail
  have hS := HS.out _ _ _ B_w20.out (rd_obj Fp.out) (rd_obj Ff.out)
  clear HS Ff
  refine Calls.mono hS ?_
  rintro e_ w21 ⟨a5, c5, rfl, hr, hb_⟩
  have B_w21 := Lib.hid (B_w20.out.trans (hb_.mono B_w20.out.size))
  replace Fp := Lib.hid (heap_kept Fp.out hb_ (Nat.le_refl _))
  replace Fo := Lib.hid (heap_kept Fo.out hb_ (Nat.le_refl _))
  have Rt := Lib.hid hr
  clear hb_ B_w20 hr hS
  go_wp2_with fail
  have hR := HR.out _ _ _ c5 _ B_w21.out (rd_obj Fp.out) Rt.out (rd_obj Fo.out)
  clear HR Rt
  refine Calls.mono (hR) ?_
  rintro e_ w22 ⟨rfl, hb_⟩
  have B_w22 := Lib.hid (B_w21.out.trans (hb_.mono B_w21.out.size))
  replace Fp := Lib.hid (heap_kept Fp.out hb_ (Nat.le_refl _))
  replace Fo := Lib.hid (heap_kept Fo.out hb_ (Nat.le_refl _))
  clear hb_ B_w21
  clear hR Fo
  go_wp2_with fail
  refine Calls.mono (Ph.out _ B_w22.out) ?_
  rintro e_ w23 ⟨rfl, hb_⟩
  have B_w23 := Lib.hid (B_w22.out.trans (hb_.mono B_w22.out.size))
  replace Fp := Lib.hid (heap_kept Fp.out hb_ (Nat.le_refl _))
  clear hb_ B_w22
  go_wp2_with fail
  refine Calls.mono (Pm.out _ B_w23.out) ?_
  rintro e_ w24 ⟨rfl, hb_⟩
  have B_w24 := Lib.hid (B_w23.out.trans (hb_.mono B_w23.out.size))
  replace Fp := Lib.hid (heap_kept Fp.out hb_ (Nat.le_refl _))
  clear hb_ B_w23
  go_wp2_with fail
  refine Calls.mono (Pe.out _ B_w24.out) ?_
  rintro e_ w25 ⟨rfl, hb_⟩
  have B_w25 := Lib.hid (B_w24.out.trans (hb_.mono B_w24.out.size))
  replace Fp := Lib.hid (heap_kept Fp.out hb_ (Nat.le_refl _))
  clear hb_ B_w24
  go_wp2_with fail
  have B_w25b := Lib.hid (B_w25.out.alloc B_w25.out.size (.cells #[.string (itx h.num), .string (dec h.den), .string (itx m.num), .string (dec m.den), .string (itx e.num), .string (dec e.den)] 30))
  have Fl := Lib.hid (heap_at w25 #[.string (itx h.num), .string (dec h.den), .string (itx m.num), .string (dec m.den), .string (itx e.num), .string (dec e.den)] 30 _ rfl)
  replace Fp := Lib.hid (heap_old Fp.out (.cells #[.string (itx h.num), .string (dec h.den), .string (itx m.num), .string (dec m.den), .string (itx e.num), .string (dec e.den)] 30))
  clear B_w25
  generalize hg_ : w25.heap.size = gFl at *
  generalize hw_ : w25.alloc (.cells #[.string (itx h.num), .string (dec h.den), .string (itx m.num), .string (dec m.den), .string (itx e.num), .string (dec e.den)] 30) = w26 at *
  clear hg_ hw_
  have hT := HT.out _ _ _ B_w25b.out (rd_obj Fp.out) (rd_obj Fl.out)
  clear HT
  refine Calls.mono (hT) ?_
  rintro e_ w27 ⟨rfl, hb_⟩
  have B_w27 := Lib.hid (B_w25b.out.trans (hb_.mono B_w25b.out.size))
  replace Fp := Lib.hid (heap_kept Fp.out hb_ (Nat.le_refl _))
  replace Fl := Lib.hid (heap_kept Fl.out hb_ (Nat.le_refl _))
  clear hb_ B_w25b
  clear hT Fl Fp
  have k55 := k55
  have k7 := k7
  go_wp2_with fail
  go_ret
  exact ⟨rfl, B_w27.out⟩

end Go.Proofs.YtlomhfknmhaboaaGreatDoor

/- The law SizeIntervals: what its function returns. -/
namespace Go.Proofs.YtlomhfknmhaboaaGreatDoor
open Go.RowKit

theorem part_regrown (w : World) (n : Int) (d : Nat) (v : Rat) (hv : mkRat n d = v) (q1 : -9223372036854775808 ≤ n) (q2 : n ≤ 9223372036854775807) (q3 : 0 < d) (q4 : d ≤ 1000000) (L : Laid w) :
    ∀ k os, Calls Tryz.prog 18 #[.int .i64 n, .int .i64 d] (Go.Sort.grow (redrawn w k) os) fun e w'' => e = .returned (fr v) ∧ ∃ p : Regrown, w'' = Go.Sort.grow (redrawn w p.d) p.os := fun k os => by
  subst hv
  exact Calls.regrown_of (partR _ n d q1 q2 q3 q4 (L.below (below_regrown w k os)))

set_option maxRecDepth 100000 in
set_option maxHeartbeats 8000000 in
theorem lawIvl_long (w : World) (a0 a1 : Option Addr) (c0 c1 n m : Nat) (h : 8 < n ∨ 10 < m) (L : Laid w) :
    Gives Tryz.prog 8 #[.slice a0 n c0, .slice a1 m c1] w (.bool true) := by
  unfold Gives
  have Hk : Hid (∀ W, Below w.heap.size w W → Gives Tryz.prog 12 #[] W (.bool true)) := fun W hW => known_ok W (L.below hW)
  clear L
  by_cases h8 : (8 : Int) < n
  · go_enter Tryz.func8, Tryz.ntmps8
    go_wp2_with fail
    refine Calls.mono (Hk.out _ (Below.refl _ _)) ?_
    rintro e w1 ⟨rfl, hb1⟩
    have B1 := Lib.hid hb1
    clear hb1
    go_wp2_with fail
    refine Calls.mono (Hk.out _ B1.out) ?_
    rintro e w2 ⟨rfl, hb2⟩
    have B2 := Lib.hid (B1.out.trans (hb2.mono B1.out.size))
    clear hb2 B1 Hk
    go_wp2_with fail
    go_ret
    exact ⟨rfl, B2.out⟩
  · have h10 : (10 : Int) < m := by omega
    clear h
    go_enter Tryz.func8, Tryz.ntmps8
    go_wp2_with fail
    refine Calls.mono (Hk.out _ (Below.refl _ _)) ?_
    rintro e w1 ⟨rfl, hb1⟩
    have B1 := Lib.hid hb1
    clear hb1
    go_wp2_with fail
    refine Calls.mono (Hk.out _ B1.out) ?_
    rintro e w2 ⟨rfl, hb2⟩
    have B2 := Lib.hid (B1.out.trans (hb2.mono B1.out.size))
    clear hb2 B1 Hk
    go_wp2_with fail
    go_ret
    exact ⟨rfl, B2.out⟩

set_option maxRecDepth 100000 in
set_option maxHeartbeats 8000000 in
theorem lawIvl_err (w : World) (a0 a1 : Option Addr) (c0 c1 : Nat) (ps r : List Int) (hp : Rd w a0 (ints ps)) (hi : I64s ps) (hr : Rd w a1 (ints r)) (h8 : ps.length ≤ 8) (h10 : r.length ≤ 10) (hc : pcode ps ≠ 0) (L : Laid w) :
    Gives Tryz.prog 8 #[.slice a0 ps.length c0, .slice a1 r.length c1] w (.bool true) := by
  unfold Gives
  have Hk : Hid (∀ W, Below w.heap.size w W → Gives Tryz.prog 12 #[] W (.bool true)) := fun W hW => known_ok W (L.below hW)
  have Hz : Hid (∀ W, Below w.heap.size w W → GivesErr 37 #[.slice a0 ps.length c0] W (pcode ps)) := fun W hW => zero_err W a0 c0 ps (hp.below hW (Nat.le_refl _)) hi (by omega) hc
  have He : Hid (∀ W, Below w.heap.size w W → GivesErr 38 #[.slice a0 ps.length c0] W (pcode ps)) := fun W hW => equave_err W a0 c0 ps (hp.below hW (Nat.le_refl _)) hi (by omega) hc
  have hm : mcode1 ps r = pcode ps := by unfold mcode1 mcode; rw [if_neg hc]
  have Ho : Hid (∀ W, Below w.heap.size w W → GivesErr 39 #[.slice a0 ps.length c0, .slice a1 r.length c1] W (pcode ps)) := fun W hW => by
    have := of_err W a0 a1 c0 c1 ps r (hp.below hW (Nat.le_refl _)) hi (by omega) (hr.below hW (Nat.le_refl _)) (by omega) (by rw [hm]; exact hc)
    rw [hm] at this
    exact this
  have Hc : Hid (∀ W, Below w.heap.size w W → Gives Tryz.prog 40 #[.slice a0 ps.length c0] W (.int .i64 (pcode ps))) := fun W hW => primeCheck_any W a0 c0 ps (hp.below hW (Nat.le_refl _)) hi (by omega)
  unfold GivesErr at Hz He Ho
  have hp0 : (pcode ps == 0) = false := by rw [beq_eq_false_iff_ne]; exact hc
  clear L hp hi hr hm hc
  generalize pcode ps = p at *
  generalize ps.length = n at *
  generalize r.length = m at *
  have h8' : ¬ (8 : Int) < n := by omega
  have h10' : ¬ (10 : Int) < m := by omega
  go_enter Tryz.func8, Tryz.ntmps8
  go_wp2_with fail
  refine Calls.mono (Hk.out _ (Below.refl _ _)) ?_
  rintro e w1 ⟨rfl, hb1⟩
  have B1 := Lib.hid hb1
  clear hb1 Hk
  go_wp2_with fail
  refine Calls.mono (Hz.out _ B1.out) ?_
  rintro e w2 ⟨rfl, hb2⟩
  have B2 := Lib.hid (B1.out.trans (hb2.mono B1.out.size))
  clear hb2 B1 Hz
  go_wp2_with fail
  refine Calls.mono (He.out _ B2.out) ?_
  rintro e w3 ⟨rfl, hb3⟩
  have B3 := Lib.hid (B2.out.trans (hb3.mono B2.out.size))
  clear hb3 B2 He
  go_wp2_with fail
  refine Calls.mono (Ho.out _ B3.out) ?_
  rintro e w4 ⟨rfl, hb4⟩
  have B4 := Lib.hid (B3.out.trans (hb4.mono B3.out.size))
  clear hb4 B3 Ho
  go_wp2_with fail
  refine Calls.mono (Hc.out _ B4.out) ?_
  rintro e w5 ⟨rfl, hb5⟩
  have B5 := Lib.hid (B4.out.trans (hb5.mono B4.out.size))
  clear hb5 B4 Hc
  go_wp2_with fail
  go_ret
  exact ⟨rfl, B5.out⟩

end Go.Proofs.YtlomhfknmhaboaaGreatDoor

/- The law SizeIntervals over right primes: what its function returns. -/
namespace Go.Proofs.YtlomhfknmhaboaaGreatDoor
open Go.RowKit

theorem rdq_at {w wr : World} {a : Option Addr} {l : List Rat} {B : Nat} (h : Rd w a (cellsQ l)) (hb : Below B w wr) (hB : w.heap.size ≤ B) (k : Nat) (hk : k < l.length) :
    ∃ b off, a = some ⟨b, off, none⟩ ∧ wr.cell? ⟨b, off + k * 2, none⟩ = some (.string (itx l[k].num)) ∧ wr.cell? ⟨b, off + k * 2 + 1, none⟩ = some (.string (dec l[k].den)) := by
  obtain ⟨b, off, rfl, hbl, hcells⟩ := h.open (by rw [cellsQ_length]; omega)
  obtain ⟨x0, x1⟩ := cellsS_rd hcells k (by rw [List.length_map]; exact hk)
  rw [← hb.cell (p := ⟨b, off + k * 2, none⟩) (Nat.lt_of_lt_of_le hbl hB), qs_getD _ k hk] at x0
  rw [← hb.cell (p := ⟨b, off + k * 2 + 1, none⟩) (Nat.lt_of_lt_of_le hbl hB), qs_getD _ k hk] at x1
  exact ⟨b, off, rfl, x0, x1⟩

set_option maxRecDepth 100000 in
set_option maxHeartbeats 16000000 in
theorem lawIvl_ok (w : World) (a0 a1 : Option Addr) (c0 c1 : Nat) (ps r : List Int) (hp : Rd w a0 (ints ps)) (hi : I64s ps) (hr : Rd w a1 (ints r)) (hri : I64s r) (h8 : ps.length ≤ 8) (h10 : r.length ≤ 10) (hc : pcode ps = 0) (L : Laid w) :
    Gives Tryz.prog 8 #[.slice a0 ps.length c0, .slice a1 r.length c1] w (.bool true) := by
  unfold Gives
  obtain ⟨hn0, -⟩ := pcode_pos hc
  have Hk : Hid (∀ W, Below w.heap.size w W → Gives Tryz.prog 12 #[] W (.bool true)) := fun W hW => known_ok W (L.below hW)
  have Hz : Hid (∀ W, Below w.heap.size w W → GivesOk 37 #[.slice a0 ps.length c0] W (List.replicate ps.length 0)) := fun W hW => zero_ok W a0 c0 ps (hp.below hW (Nat.le_refl _)) hi (by omega) hc (L.below hW)
  have He : Hid (∀ W, Below w.heap.size w W → GivesOk 38 #[.slice a0 ps.length c0] W ((List.replicate ps.length 0).set 0 1)) := fun W hW => equave_ok W a0 c0 ps (hp.below hW (Nat.le_refl _)) hi hc (L.below hW)
  obtain ⟨ls, hls⟩ : ∃ ls : List Rat, ls = if mcode1 ps r = 0 then r.map (fun x : Int => (x : Rat)) else [] := ⟨_, rfl⟩
  have Ho : Hid (∀ W, Below w.heap.size w W → Calls Tryz.prog 39 #[.slice a0 ps.length c0, .slice a1 r.length c1] W fun e w' => ∃ a c, e = .returned (.tuple #[.slice a ls.length c, .int .i64 (mcode1 ps r)]) ∧ Rd w' a (cellsQ ls) ∧ Below W.heap.size W w') := fun W hW => by
    by_cases h : mcode1 ps r = 0
    · refine Calls.mono (of_ok W a0 a1 c0 c1 ps r (hp.below hW (Nat.le_refl _)) hi (hr.below hW (Nat.le_refl _)) hri h (L.below hW)) ?_
      rintro e w' ⟨a, c, rfl, ho, hb⟩
      rw [if_pos h] at hls
      subst hls
      exact ⟨a, c, by rw [h], ho.rd, hb⟩
    · refine Calls.mono (of_err W a0 a1 c0 c1 ps r (hp.below hW (Nat.le_refl _)) hi (by omega) (hr.below hW (Nat.le_refl _)) (by omega) h) ?_
      rintro e w' ⟨rfl, hb⟩
      rw [if_neg h] at hls
      subst hls
      exact ⟨none, 0, rfl, .inl rfl, hb⟩
  have Hc : Hid (∀ W, Below w.heap.size w W → Gives Tryz.prog 40 #[.slice a0 ps.length c0] W (.int .i64 0)) := fun W hW => by
    have := primeCheck_any W a0 c0 ps (hp.below hW (Nat.le_refl _)) hi (by omega)
    rw [hc] at this
    exact this
  have Hm : Hid (∀ W, Below w.heap.size w W → Gives Tryz.prog 41 #[.slice a0 ps.length c0, .slice a1 r.length c1] W (.int .i64 (mcode1 ps r))) := fun W hW =>
    monCheck_any W a0 a1 c0 c1 ps r (hp.below hW (Nat.le_refl _)) hi (by omega) (hr.below hW (Nat.le_refl _)) (by omega)
  have HL := Lib.hid L
  have Hr := Lib.hid hr
  have Hri := Lib.hid hri
  unfold GivesOk at Hz He
  simp only [List.length_set, List.length_replicate] at Hz He
  obtain ⟨one, hone⟩ : ∃ q : Rat, q = 1 := ⟨_, rfl⟩
  obtain ⟨zz, hzz⟩ : ∃ q : Rat, q = 0 := ⟨_, rfl⟩
  have P1 : Hid (∀ W, Below w.heap.size w W → ∀ k os, Calls Tryz.prog 18 #[.int .i64 1, .int .i64 1] (Go.Sort.grow (redrawn W k) os) fun e w'' => e = .returned (fr one) ∧ ∃ p : Regrown, w'' = Go.Sort.grow (redrawn W p.d) p.os) := fun W hW =>
    part_regrown W 1 1 one (by rw [hone]; rfl) (by decide) (by decide) (by decide) (by decide) (L.below hW)
  have P0 : Hid (∀ W, Below w.heap.size w W → ∀ k os, Calls Tryz.prog 18 #[.int .i64 0, .int .i64 1] (Go.Sort.grow (redrawn W k) os) fun e w'' => e = .returned (fr zz) ∧ ∃ p : Regrown, w'' = Go.Sort.grow (redrawn W p.d) p.os) := fun W hW =>
    part_regrown W 0 1 zz (by rw [hzz]; rfl) (by decide) (by decide) (by decide) (by decide) (L.below hW)
  have PX : Hid (∀ (x : Int) (q : Rat), x ∈ r → (x : Rat) = q → ∀ W, Below w.heap.size w W → ∀ k os, Calls Tryz.prog 18 #[.int .i64 x, .int .i64 1] (Go.Sort.grow (redrawn W k) os) fun e w'' => e = .returned (fr q) ∧ ∃ p : Regrown, w'' = Go.Sort.grow (redrawn W p.d) p.os) := fun x q hx hq W hW =>
    part_regrown W x 1 q (by rw [← hq]; exact Rat.mkRat_one x) (hri x hx).1 (hri x hx).2 (by decide) (by decide) (L.below hW)
  unfold fr fv at P1 P0 PX
  have Hone := Lib.hid hone
  have Hzz := Lib.hid hzz
  have Hml := Lib.hid (fun h : mcode1 ps r = 0 => (mcode1_zero h).2)
  have Hls := Lib.hid hls
  clear hls
  clear L hp hi hr hri hc hone hzz
  generalize mcode1 ps r = mc at *
  generalize ps.length = n at *
  generalize hm : r.length = m at *
  have Hmm := Lib.hid hm
  clear hm
  have h8' : ¬ (8 : Int) < n := by omega
  have h10' : ¬ (10 : Int) < m := by omega
  have hn0' : (0 : Int) < n := by omega
  go_enter Tryz.func8, Tryz.ntmps8
  go_wp2_with fail
  refine Calls.mono (Hk.out _ (Below.refl _ _)) ?_
  rintro e w1 ⟨rfl, hb1⟩
  have B1 := Lib.hid hb1
  clear hb1 Hk
  go_wp2_with fail
  refine Calls.mono (Hz.out _ B1.out) ?_
  rintro e w2 ⟨az, cz, rfl, hoz, hb2⟩
  have B2 := Lib.hid (B1.out.trans (hb2.mono B1.out.size))
  have Rz := Lib.hid hoz.rd
  clear hb2 B1 Hz hoz
  go_wp2_with fail
  refine Calls.mono (He.out _ B2.out) ?_
  rintro e w3 ⟨ae, ce, rfl, hoe, hb3⟩
  have B3 := Lib.hid (B2.out.trans (hb3.mono B2.out.size))
  have Re := Lib.hid hoe.rd
  replace Rz := Lib.hid (Rz.out.below hb3 (Nat.le_refl _))
  clear hb3 B2 He hoe
  have Hzl : Hid (∀ k (h : k < (List.replicate n (0 : Rat)).length), (List.replicate n (0 : Rat))[k] = zz) := fun k h => by rw [List.getElem_replicate, Hzz.out]
  have Hel : Hid (∀ k (h : k < ((List.replicate n (0 : Rat)).set 0 1).length), ((List.replicate n (0 : Rat)).set 0 1)[k] = if k = 0 then one else zz) := fun k h => by
    rw [List.getElem_set]
    by_cases h0 : k = 0
    · rw [if_pos h0.symm, if_pos h0, Hone.out]
    · rw [if_neg (fun e => h0 e.symm), if_neg h0, List.getElem_replicate, Hzz.out]
  go_wp2_with fail
  refine Calls.mono (Ho.out _ B3.out) ?_
  rintro e w4 ⟨a4, c4, rfl, hos, hb4⟩
  have B4 := Lib.hid (B3.out.trans (hb4.mono B3.out.size))
  have Rs := Lib.hid hos
  replace Rz := Lib.hid (Rz.out.below hb4 (Nat.le_refl _))
  replace Re := Lib.hid (Re.out.below hb4 (Nat.le_refl _))
  clear hb4 B3 Ho hos
  go_wp2_with fail
  refine Calls.mono (Hc.out _ B4.out) ?_
  rintro e w5 ⟨rfl, hb5⟩
  have B5 := Lib.hid (B4.out.trans (hb5.mono B4.out.size))
  replace Rz := Lib.hid (Rz.out.below hb5 (Nat.le_refl _))
  replace Re := Lib.hid (Re.out.below hb5 (Nat.le_refl _))
  replace Rs := Lib.hid (Rs.out.below hb5 (Nat.le_refl _))
  clear hb5 B4 Hc
  obtain ⟨be, oe, rfl, x0, x1⟩ := rdq_at Re.out (Below.refl w5.heap.size w5) (Nat.le_refl _) 0 (by simp; omega)
  rw [Hel.out 0 (by simp; omega), if_pos rfl] at x0 x1
  simp only [Nat.zero_mul, Nat.add_zero] at x0 x1
  have q0 := cell_regrown x0
  have q1 := cell_regrown x1
  have hP := P1.out _ B5.out
  go_wp2_with fail
  clear x0 x1
  refine wp_region_quiet_below (by kernel_rfl) (by kernel_rfl) ?_
  repeat (first | go_big_quiet_step (with_reducible exact hP _ _) | quiet_step (with_reducible exact hP _ _))
  refine wpQuiet_nil ?_
  intro w6 hw6
  obtain ⟨⟨dq, osq⟩, rfl⟩ := hw6
  have W6 := below_regrown w5 dq osq
  have B6 := Lib.hid (B5.out.trans (W6.mono B5.out.size))
  replace Rz := Lib.hid (Rz.out.below W6 (Nat.le_refl _))
  replace Re := Lib.hid (Re.out.below W6 (Nat.le_refl _))
  replace Rs := Lib.hid (Rs.out.below W6 (Nat.le_refl _))
  clear W6 hP q0 q1 B5
  generalize Go.Sort.grow (redrawn w5 dq) osq = w6 at *
  go_wp2_with fail
  go_loopw [12] (fun i wr => ∃ k : Nat, k ≤ n ∧ i = .int .i64 k ∧ Hid (Rd wr az (cellsQ (List.replicate n 0))) ∧ Hid (Rd wr (some ⟨be, oe, none⟩) (cellsQ ((List.replicate n 0).set 0 1))) ∧ Hid (Rd wr a4 (cellsQ ls)) ∧ Hid (Below w.heap.size w wr)) (fun i _ => n - (intOf i).toNat)
  case atStart => exact ⟨0, Nat.zero_le _, rfl, Rz, Re, Rs, B6⟩
  case round =>
    clear Rz Re Rs B6
    obtain ⟨k, hk, rfl, Rz, Re, Rs, B⟩ := hrel
    by_cases hlt : k < n
    · have hlt' : (k : Int) < n := by omega
      obtain ⟨bz, oz, rfl, x0, x1⟩ := rdq_at Rz.out (Below.refl wr.heap.size wr) (Nat.le_refl _) k (by simp; omega)
      obtain ⟨be', oe', hbe, y0, y1⟩ := rdq_at Re.out (Below.refl wr.heap.size wr) (Nat.le_refl _) k (by simp; omega)
      simp only [Option.some.injEq, Addr.mk.injEq, and_true] at hbe
      obtain ⟨rfl, rfl⟩ := hbe
      rw [Hzl.out k (by simp; omega)] at x0 x1
      rw [Hel.out k (by simp; omega)] at y0 y1
      have hP := P0.out _ B.out
      have HK := Lib.hid hlt
      by_cases h0 : k = 0
      · have hd : decide ((0 : Int) < k) = false := decide_eq_false (by omega)
        have hdn : decide (0 < k) = false := decide_eq_false (by omega)
        clear y0 y1
        have q0 := cell_regrown x0
        have q1 := cell_regrown x1
        clear h0
        go_wp2_with fail
        clear x0 x1
        refine wp_region_quiet_below (by kernel_rfl) (by kernel_rfl) ?_
        repeat (first | go_big_quiet_step (with_reducible exact hP _ _) | quiet_step (with_reducible exact hP _ _))
        refine wpQuiet_nil ?_
        intro w6 hw6
        obtain ⟨⟨dq, osq⟩, rfl⟩ := hw6
        have W6 := below_regrown wr dq osq
        have B6 := Lib.hid (B.out.trans (W6.mono B.out.size))
        replace Rz := Lib.hid (Rz.out.below W6 (Nat.le_refl _))
        replace Re := Lib.hid (Re.out.below W6 (Nat.le_refl _))
        replace Rs := Lib.hid (Rs.out.below W6 (Nat.le_refl _))
        clear W6 hP q0 q1 B
        generalize Go.Sort.grow (redrawn wr dq) osq = w6 at *
        go_wp2_with fail
        go_roundw
        case rel => exact ⟨k + 1, HK.out, by go_num, Rz, Re, Rs, B6⟩
        case measure => simp [intOf]; omega
      · have hd : decide ((0 : Int) < k) = true := decide_eq_true (by omega)
        have hdn : decide (0 < k) = true := decide_eq_true (by omega)
        rw [if_neg h0] at y0 y1
        have q0 := cell_regrown x0
        have q1 := cell_regrown x1
        have q2 := cell_regrown y0
        have q3 := cell_regrown y1
        clear h0
        go_wp2_with fail
        clear x0 x1 y0 y1
        refine wp_region_quiet_below (by kernel_rfl) (by kernel_rfl) ?_
        repeat (first | go_big_quiet_step (with_reducible exact hP _ _) | quiet_step (with_reducible exact hP _ _))
        refine wpQuiet_nil ?_
        intro w6 hw6
        obtain ⟨⟨dq, osq⟩, rfl⟩ := hw6
        have W6 := below_regrown wr dq osq
        have B6 := Lib.hid (B.out.trans (W6.mono B.out.size))
        replace Rz := Lib.hid (Rz.out.below W6 (Nat.le_refl _))
        replace Re := Lib.hid (Re.out.below W6 (Nat.le_refl _))
        replace Rs := Lib.hid (Rs.out.below W6 (Nat.le_refl _))
        clear W6 hP q0 q1 q2 q3 B
        generalize Go.Sort.grow (redrawn wr dq) osq = w6 at *
        go_wp2_with fail
        go_roundw
        case rel => exact ⟨k + 1, HK.out, by go_num, Rz, Re, Rs, B6⟩
        case measure => simp [intOf]; omega
    · have hlt' : ¬ (k : Int) < n := by omega
      clear Rz Re P1 P0 Hel Hzl hk hlt
      go_wp2_with fail
      refine Calls.mono (Hm.out _ B.out) ?_
      rintro e w7 ⟨rfl, hb7⟩
      have B7 := Lib.hid (B.out.trans (hb7.mono B.out.size))
      replace Rs := Lib.hid (Rs.out.below hb7 (Nat.le_refl _))
      clear hb7 B Hm
      by_cases hmc : mc = 0
      · have hls := Hls.out
        rw [if_pos hmc] at hls
        have hml := Hml.out hmc
        have Hlsl : Hid (ls.length = m) := by show _ = _; rw [hls, List.length_map, Hmm.out]
        have Hlse := Lib.hid hls
        clear hls Hls Hml
        subst hmc
        subst hml
        have hll := Hlsl.out
        generalize hlq : ls.length = lq at *
        subst hll
        go_wp2_with fail
        go_loopw [14] (fun i wr => ∃ k : Nat, k ≤ lq ∧ i = .int .i64 k ∧ Hid (Rd wr a4 (cellsQ ls)) ∧ Hid (Below w.heap.size w wr)) (fun i _ => lq - (intOf i).toNat)
        case atStart => exact ⟨0, Nat.zero_le _, rfl, Rs, B7⟩
        case round =>
          clear Rs B7
          obtain ⟨k, hk, rfl, Rs, B⟩ := hrel
          by_cases hlt2 : k < lq
          · have hlt2' : (k : Int) < lq := by omega
            obtain ⟨bz, oz, rfl, x0, x1⟩ := rdq_at Rs.out (Below.refl wr.heap.size wr) (Nat.le_refl _) k (by omega)
            have hkr : k < r.length := by rw [Hmm.out]; exact hlt2
            obtain ⟨b2, o2, rfl, hb2, hc2⟩ := Hr.out.open (by rw [ints_length]; omega)
            have cy := hc2 k _ (ints_get r k hkr)
            rw [← B.out.cell (p := ⟨b2, o2 + k, none⟩) hb2] at cy
            have hmem : r[k] ∈ r := List.getElem_mem hkr
            have hq : ((r[k] : Int) : Rat) = ls[k]'(by omega) := by
              have e := Hlse.out
              subst e
              rw [List.getElem_map]
            have hP := PX.out _ _ hmem hq wr B.out
            clear hc2 hmem hq
            generalize r[k] = x at *
            generalize ls[k]'(by omega) = q at *
            have HK := Lib.hid hlt2
            have q0 := cell_regrown x0
            have q1 := cell_regrown x1
            have q2 := cell_regrown cy
            go_wp2_with fail
            clear x0 x1 cy
            refine wp_region_quiet_below (by kernel_rfl) (by kernel_rfl) ?_
            repeat (first | go_big_quiet_step (with_reducible exact hP _ _) | quiet_step (with_reducible exact hP _ _))
            refine wpQuiet_nil ?_
            intro w6 hw6
            obtain ⟨⟨dq, osq⟩, rfl⟩ := hw6
            have W6 := below_regrown wr dq osq
            have B6 := Lib.hid (B.out.trans (W6.mono B.out.size))
            replace Rs := Lib.hid (Rs.out.below W6 (Nat.le_refl _))
            clear W6 hP q0 q1 q2 B
            generalize Go.Sort.grow (redrawn wr dq) osq = w6 at *
            go_wp2_with fail
            go_roundw
            case rel => exact ⟨k + 1, HK.out, by go_num, Rs, B6⟩
            case measure => simp [intOf]; omega
          · have hlt2' : ¬ (k : Int) < lq := by omega
            go_wp2_with fail
            go_ret
            exact ⟨rfl, B.out⟩
      · have hls := Hls.out
        rw [if_neg hmc] at hls
        have hll : ls.length = 0 := by rw [hls]; rfl
        have hm0 : (mc == 0) = false := by rw [beq_eq_false_iff_ne]; exact hmc
        clear hls Hls Hml hmc
        generalize ls.length = lq at *
        subst hll
        go_wp2_with fail
        go_ret
        exact ⟨rfl, B7.out⟩

end Go.Proofs.YtlomhfknmhaboaaGreatDoor

/- The law functions of layer 13: Primes, Fraction, short. -/
namespace Go.Proofs.YtlomhfknmhaboaaGreatDoor
open Go.RowKit

/-- The lists of primes. -/
def primesL : Nat → List Int
  | 0 => [2, 3, 5] | 1 => [2, 3] | 2 => [2, 3, 5, 7] | 3 => [2, 3, 7] | 4 => [3, 5, 7] | 5 => [2] | 6 => [2, 5, 7] | 7 => [2, 3, 11] | 8 => [2, 3, 5, 13] | _ => [2, 3, 7, 11]

theorem primesL_ok : ∀ k, k < 10 → pcode (primesL k) = 0 ∧ (primesL k).length ≤ 4 ∧ 0 < (primesL k).length ∧ (∀ p ∈ primesL k, 2 ≤ p ∧ p ≤ 13) := by decide +kernel

set_option maxRecDepth 100000 in
set_option maxHeartbeats 8000000 in
theorem primes_any (w : World) (n : Nat) (hn : n < 256) :
    Calls Tryz.prog 13 #[.int .u8 n] w fun e w' => ∃ g, e = .returned (.slice (some ⟨g, 0, none⟩) (primesL (n % 10)).length (primesL (n % 10)).length) ∧ Rd w' (some ⟨g, 0, none⟩) (ints (primesL (n % 10))) ∧ Below w.heap.size w w' := by
  have htm : Int.tmod (n : Int) 10 = ((n % 10 : Nat) : Int) := by rw [Int.tmod_eq_emod_of_nonneg (by omega)]; omega
  have hk : n % 10 < 10 := Nat.mod_lt _ (by decide)
  generalize n % 10 = k at *
  clear hn
  go_enter Tryz.func13, Tryz.ntmps13
  have hk' : (0 : Int) ≤ k ∧ (k : Int) < 10 := ⟨by omega, by omega⟩
  go_wp2_with fail
  go_ret
  clear hk'
  have h10 : k = 0 ∨ k = 1 ∨ k = 2 ∨ k = 3 ∨ k = 4 ∨ k = 5 ∨ k = 6 ∨ k = 7 ∨ k = 8 ∨ k = 9 := by omega
  rcases h10 with rfl | rfl | rfl | rfl | rfl | rfl | rfl | rfl | rfl | rfl
  all_goals
    refine ⟨_, rfl, ?_, ?_⟩
    · refine rd_ints (t := 3) ?_
      repeat (first | exact heap_at _ _ _ _ (by simp) | refine heap_old ?_ _)
    · repeat (first | exact Below.refl _ _ | refine Below.alloc ?_ (by simp; try omega) _)

def densL : Nat → Nat
  | 0 => 1 | 1 => 2 | 2 => 3 | 3 => 4 | 4 => 6 | _ => 12
/-- The fraction of a part. -/
def fracQ (n : Int) (d : Nat) : Rat := mkRat (n.tmod 41) (densL (d % 6))

theorem densL_ok (k : Nat) : 0 < densL k ∧ densL k ≤ 12 := by
  unfold densL; split <;> omega

end Go.Proofs.YtlomhfknmhaboaaGreatDoor

/- The law functions of layer 13: Fraction. -/
namespace Go.Proofs.YtlomhfknmhaboaaGreatDoor
open Go.RowKit

set_option maxRecDepth 100000 in
set_option maxHeartbeats 8000000 in
theorem fraction_any (w : World) (n : Int) (d : Nat) (_ : -128 ≤ n ∧ n ≤ 127) (hd : d < 256) (L : Laid w) :
    Gives Tryz.prog 24 #[.agg #[.int .i8 n, .int .u8 d]] w (fr (fracQ n d)) := by
  unfold Gives
  have t1 := Int.tmod_lt_of_pos n (show (0 : Int) < 41 by decide)
  have t2 := Int.lt_tmod_of_pos n (show (0 : Int) < 41 by decide)
  have hdl := densL_ok (d % 6)
  have HP : Hid (∀ W, Below w.heap.size w W → Gives Tryz.prog 18 #[.int .i64 (n.tmod 41), .int .i64 (densL (d % 6))] W (fr (fracQ n d))) := fun W hW => partR W (n.tmod 41) (densL (d % 6)) (by omega) (by omega) hdl.1 (by omega) (L.below hW)
  have htm : Int.tmod (d : Int) 6 = ((d % 6 : Nat) : Int) := by rw [Int.tmod_eq_emod_of_nonneg (by omega)]; omega
  have hk : d % 6 < 6 := Nat.mod_lt _ (by decide)
  have Hx : Hid (∀ h, ([Value.int .i64 1, Value.int .i64 2, Value.int .i64 3, Value.int .i64 4, Value.int .i64 6, Value.int .i64 12] : List Value)[d % 6]'h = .int .i64 (densL (d % 6))) := fun h => by
    have h6 : d % 6 = 0 ∨ d % 6 = 1 ∨ d % 6 = 2 ∨ d % 6 = 3 ∨ d % 6 = 4 ∨ d % 6 = 5 := by omega
    generalize d % 6 = k at *
    rcases h6 with rfl | rfl | rfl | rfl | rfl | rfl <;> rfl
  unfold fr fv at HP ⊢
  generalize fracQ n d = q at *
  have hw : wrap64 (n.tmod 41) = n.tmod 41 := IntWalk.wrap64_in _ ⟨by omega, by omega⟩
  generalize d % 6 = k at *
  clear hdl L
  have hk' : (0 : Int) ≤ k ∧ (k : Int) < 6 := ⟨by omega, by omega⟩
  have B0 := Lib.hid (((Below.refl w.heap.size w).alloc (Nat.le_refl _) (.cells #[.int .i8 n, .int .u8 d] 38)).alloc (by simp) (.cells #[.string ⟨#[]⟩, .string ⟨#[]⟩] 30))
  have K0 := Lib.hid (heap_old (heap_at w #[.int .i8 n, .int .u8 d] 38 _ rfl) (.cells #[.string ⟨#[]⟩, .string ⟨#[]⟩] 30))
  have M0 := Lib.hid (heap_at (w.alloc (.cells #[.int .i8 n, .int .u8 d] 38)) #[.string ⟨#[]⟩, .string ⟨#[]⟩] 30 _ rfl)
  rw [World.size_alloc] at M0
  go_enter Tryz.func24, Tryz.ntmps24
  go_wp2_with fail
  generalize (w.alloc (.cells #[.int .i8 n, .int .u8 d] 38)).alloc (.cells #[.string ⟨#[]⟩, .string ⟨#[]⟩] 30) = W0 at *
  obtain ⟨k0, k1, -, -⟩ := two_cells K0.out
  have q0 := BW.cell k0
  have q1 := BW.cell k1
  have hnon : Nonempty (BW W0) := ⟨⟨W0, Below.refl _ _⟩⟩
  clear k0 k1 K0
  refine RX.wp_region_readers 11 [(1,0),(1,1),(1,2),(1,3),(1,5),(1,6),(1,7),(0,4),(2,8),(0,9),(0,10),(0,11)] (fun w' => ∃ p : BW W0, w' = p.w) (by kernel_rfl) (by kernel_rfl) ?_ ?_
  · exact ⟨⟨{ W0 with drawn := W0.drawn + 1 }, ⟨rfl, rfl, rfl, Nat.le_refl _, fun _ _ => rfl⟩⟩, rfl⟩
  iterate 7 (refine RX.walkR_read ?_; simp only [List.drop_succ_cons, List.drop_zero, List.take_succ_cons, List.take_zero]; go_big_quiet_step (fail); refine wpQuiet_nil ?_)
  clear q0 q1 hnon
  refine RX.walkR_move ?_
  simp only [List.drop_succ_cons, List.drop_zero, List.take_succ_cons, List.take_zero]
  go_wp2_with fail
  have W1 : Hid (Below W0.heap.size W0 (W0.alloc (.cells #[.int .i64 1, .int .i64 2, .int .i64 3, .int .i64 4, .int .i64 6, .int .i64 12] 3)).drew) := ((Below.refl W0.heap.size W0).alloc (Nat.le_refl _) _).drew
  refine ⟨⟨⟨_, W1.out⟩, rfl⟩, ?_⟩
  refine RX.walkR_any ?_
  simp only [List.drop_succ_cons, List.drop_zero, List.take_succ_cons, List.take_zero]
  go_big_quiet_step (fail)
  refine wpQuiet_nil ?_
  refine RX.walkR_move ?_
  simp only [List.drop_succ_cons, List.drop_zero, List.take_succ_cons, List.take_zero]
  go_wp2_with fail
  refine ⟨⟨⟨_, W1.out⟩, rfl⟩, ?_⟩
  refine RX.walkR_move ?_
  simp only [List.drop_succ_cons, List.drop_zero, List.take_succ_cons, List.take_zero]
  simp only [Hx.out]
  go_wp2_with fail
  have B1 := Lib.hid (B0.out.trans (W1.out.mono B0.out.size))
  refine Calls.mono (HP.out _ B1.out) ?_
  rintro e w5 ⟨rfl, hb5⟩
  have W5 := Lib.hid (W1.out.trans (hb5.mono W1.out.size))
  have B5 := Lib.hid (B0.out.trans (W5.out.mono B0.out.size))
  have M5 := Lib.hid (heap_kept M0.out W5.out (Nat.le_refl _))
  clear hb5 HP M0 B0 W1 B1
  go_wp2_with fail
  refine ⟨⟨⟨w5, W5.out⟩, rfl⟩, ?_⟩
  obtain ⟨k0, k1, f0, f1⟩ := two_cells M5.out
  refine RX.walkR_move ?_
  simp only [List.drop_succ_cons, List.drop_zero, List.take_succ_cons, List.take_zero]
  go_wp2_with fail
  simp only [RX.walkR]
  obtain ⟨c0, c1, hb3⟩ := two_stored (B := w.heap.size) (.string (itx q.num)) (.string (dec q.den)) k0 k1 (by omega) B5.out
  go_wp2
  exact bodyPost_ret (v := .agg #[.string (itx q.num), .string (dec q.den)]) (by simp [results, Tryz.results24, go_sem, c0, c1]) rfl ⟨rfl, hb3⟩

end Go.Proofs.YtlomhfknmhaboaaGreatDoor

/- size.result and size.Combine at whatever comes. -/
namespace Go.Proofs.YtlomhfknmhaboaaGreatDoor
open Go.RowKit

set_option maxHeartbeats 4000000 in
theorem tooLongR (w : World) (a : Rat) : Gives Tryz.prog 102 #[fr a] w (.bool (!decide (shortQ a))) := by
  unfold Gives
  have Hs : Hid (∀ W, Gives Tryz.prog 103 #[fr a] W (.bool (decide (shortQ a)))) := fun W => shortR W a
  unfold fr fv at Hs ⊢
  have B1 := Lib.hid ((Below.refl w.heap.size w).alloc (Nat.le_refl _) (.cells #[.string (itx a.num), .string (dec a.den)] 30))
  generalize decide (shortQ a) = z at *
  go_enter Tryz.func102, Tryz.ntmps102
  go_wp2_with fail
  refine Calls.mono (Hs.out _) ?_
  rintro e w1 ⟨rfl, hb⟩
  have B2 := Lib.hid (B1.out.trans (hb.mono B1.out.size))
  clear hb
  go_wp2_with fail
  go_ret
  exact ⟨rfl, B2.out⟩

/-- All coefficients are short. -/
def shortAll (l : List Rat) : Bool := l.all fun q => decide (shortQ q)
theorem shortAll_of {l : List Rat} (h : shortAll l = true) : ∀ q ∈ l, shortQ q := fun q hq => of_decide_eq_true (List.all_eq_true.1 h q hq)

/-- The index of the first one for which a test says yes, or -1. -/
def firstYes : List Bool → Int
  | [] => -1
  | b :: l => if b then 0 else if firstYes l = -1 then -1 else firstYes l + 1
theorem firstYes_none : ∀ l : List Bool, (∀ b ∈ l, b = false) → firstYes l = -1
  | [], _ => rfl
  | b :: l, h => by
    have hb := h b List.mem_cons_self
    have ih := firstYes_none l fun c hc => h c (List.mem_cons_of_mem _ hc)
    subst hb
    simp [firstYes, ih]

set_option maxRecDepth 100000 in
set_option maxHeartbeats 4000000 in
theorem index_long (w : World) (a : Option Addr) (c : Nat) (l : List Rat) (hr : Rd w a (cellsQ l)) (hl : l.length ≤ 1000) :
    Calls Tryz.prog 130 #[.slice a l.length c, .func (.func 102) #[] #[]] w fun e w' => ∃ i : Int, e = .returned (.int .i64 i) ∧ -1 ≤ i ∧ decide (0 ≤ i) = !shortAll l ∧ Below w.heap.size w w' := by
  have Hr := Lib.hid hr
  clear hr
  have Hall : Hid (∀ k, k ≤ l.length → (∀ j (h : j < l.length), j < k → decide (shortQ l[j]) = true) → k = l.length → shortAll l = true) := fun k hk h hkl => by
    unfold shortAll
    rw [List.all_eq_true]
    intro q hq
    obtain ⟨j, hj, rfl⟩ := List.mem_iff_getElem.1 hq
    exact h j hj (by omega)
  have Hone : Hid (∀ k (h : k < l.length), decide (shortQ l[k]) = false → shortAll l = false) := fun k h hf => by
    unfold shortAll
    rw [List.all_eq_false]
    exact ⟨l[k], List.getElem_mem h, by rw [hf]; decide⟩
  obtain ⟨m, hm⟩ : ∃ m, l.length = m := ⟨_, rfl⟩
  rw [hm] at hl ⊢
  have Hm := Lib.hid hm
  clear hm
  generalize shortAll l = z at *
  go_enter Tryz.func130, Tryz.ntmps130
  go_wp2_with fail
  go_loopw [8] (fun i wr => ∃ k : Nat, k ≤ m ∧ i = .int .i64 k ∧ Hid (∀ j (h : j < l.length), j < k → decide (shortQ l[j]) = true) ∧ Hid (Below w.heap.size w wr)) (fun i _ => m - (intOf i).toNat)
  case atStart => exact ⟨0, Nat.zero_le _, rfl, fun j _ hj => absurd hj (Nat.not_lt_zero _), Below.refl _ _⟩
  case round =>
    obtain ⟨k, hk, rfl, Hp, B⟩ := hrel
    by_cases hlt : k < m
    · have hlt' : (k : Int) < m := by omega
      have hkb : k < l.length := by rw [Hm.out]; exact hlt
      obtain ⟨b, off, rfl, hb, hcells⟩ := Hr.out.open (by rw [cellsQ_length, Hm.out]; omega)
      obtain ⟨x0, x1⟩ := cellsS_rd hcells k (by rw [List.length_map]; exact hkb)
      rw [← B.out.cell (p := ⟨b, off + k * 2, none⟩) hb, qs_getD _ k hkb] at x0
      rw [← B.out.cell (p := ⟨b, off + k * 2 + 1, none⟩) hb, qs_getD _ k hkb] at x1
      have Hc : Hid (Gives Tryz.prog 102 #[fr l[k]] wr (.bool (!decide (shortQ l[k])))) := tooLongR wr _
      unfold fr fv at Hc
      simp only [qs] at x0 x1
      clear hcells
      by_cases hs : decide (shortQ l[k]) = true
      · have Hp' : Hid (∀ j (h : j < l.length), j < k + 1 → decide (shortQ l[j]) = true) := fun j h hj => by
          rcases Nat.lt_or_ge j k with hh | hh
          · exact Hp.out j h hh
          · have e : j = k := by omega
            subst e
            exact hs
        rw [hs] at Hc
        clear hs Hp
        generalize l[k] = x at *
        go_wp2_with fail
        refine Calls.mono Hc.out ?_
        rintro e w1 ⟨rfl, hb1⟩
        have B1 := Lib.hid (B.out.trans (hb1.mono B.out.size))
        clear hb1 Hc B x0 x1
        go_wp2_with fail
        go_roundw
        case rel => exact ⟨k + 1, by omega, by go_num, Hp', B1⟩
        case measure => simp [intOf]; omega
      · have hs' : decide (shortQ l[k]) = false := by simpa using hs
        have Hz := Lib.hid (Hone.out k hkb hs')
        rw [hs'] at Hc
        clear hs hs' Hp
        generalize l[k] = x at *
        go_wp2_with fail
        refine Calls.mono Hc.out ?_
        rintro e w1 ⟨rfl, hb1⟩
        have B1 := Lib.hid (B.out.trans (hb1.mono B.out.size))
        clear hb1 Hc B x0 x1
        go_wp2_with fail
        go_ret
        exact ⟨k, rfl, by omega, by rw [Hz.out]; exact decide_eq_true (by omega), B1.out⟩
    · have hlt' : ¬ (k : Int) < m := by omega
      have Hz := Lib.hid (Hall.out k (by rw [Hm.out]; exact hk) Hp.out (by rw [Hm.out]; omega))
      clear Hp
      go_wp2_with fail
      go_ret
      exact ⟨-1, rfl, by decide, by rw [Hz.out]; rfl, B.out⟩

set_option maxHeartbeats 4000000 in
theorem contains_long (w : World) (a : Option Addr) (c : Nat) (l : List Rat) (hr : Rd w a (cellsQ l)) (hl : l.length ≤ 1000) :
    Gives Tryz.prog 101 #[.slice a l.length c, .func (.func 102) #[] #[]] w (.bool (!shortAll l)) := by
  unfold Gives
  have Hi := Lib.hid (index_long w a c l hr hl)
  clear hr hl
  generalize shortAll l = z at *
  go_enter Tryz.func101, Tryz.ntmps101
  go_wp2_with fail
  refine Calls.mono Hi.out ?_
  rintro e w1 ⟨i, rfl, hi1, hi2, hb⟩
  have B := Lib.hid hb
  have Hz := Lib.hid hi2
  clear hb Hi hi2
  go_wp2_with fail
  go_ret
  exact ⟨by rw [← Hz.out]; rfl, B.out⟩

set_option maxHeartbeats 4000000 in
theorem result_fine (w : World) (a : Option Addr) (c : Nat) (l : List Rat) (hr : Rd w a (cellsQ l)) (hl : l.length ≤ 1000) (hs : shortAll l = true) :
    Gives Tryz.prog 58 #[.slice a l.length c] w (.tuple #[.slice a l.length c, .int .i64 0]) := by
  unfold Gives
  have Hi := Lib.hid (contains_long w a c l hr hl)
  rw [hs] at Hi
  clear hr hl hs
  go_enter Tryz.func58, Tryz.ntmps58
  go_wp2_with fail
  refine Calls.mono Hi.out ?_
  rintro e w1 ⟨rfl, hb⟩
  have B := Lib.hid hb
  clear hb Hi
  go_wp2_with fail
  go_ret2
  exact ⟨rfl, B.out⟩

set_option maxHeartbeats 4000000 in
theorem result_long (w : World) (a : Option Addr) (c : Nat) (l : List Rat) (hr : Rd w a (cellsQ l)) (hl : l.length ≤ 1000) (hs : shortAll l = false) :
    GivesErr 58 #[.slice a l.length c] w 4 := by
  unfold GivesErr Gives
  have Hi := Lib.hid (contains_long w a c l hr hl)
  rw [hs] at Hi
  clear hr hl hs
  go_enter Tryz.func58, Tryz.ntmps58
  go_wp2_with fail
  refine Calls.mono Hi.out ?_
  rintro e w1 ⟨rfl, hb⟩
  have B := Lib.hid hb
  clear hb Hi
  go_wp2_with fail
  go_ret2
  exact ⟨rfl, B.out⟩

open Classical in
/-- A pair of texts is no fraction. -/
noncomputable def wrongB (x : ByteArray × ByteArray) : Bool := !decide (IsQ x.1 x.2)
open Classical in
/-- All pairs of texts are fractions. -/
noncomputable def rightAll (l : List (ByteArray × ByteArray)) : Bool := l.all fun x => decide (IsQ x.1 x.2)

open Classical in
set_option maxHeartbeats 4000000 in
theorem wrongR (w : World) (s t : ByteArray) (hs : s.size ≤ 10000000) (ht : t.size ≤ 10000000) (L : Laid w) : Gives Tryz.prog 57 #[.agg #[.string s, .string t]] w (.bool (wrongB (s, t))) := by
  have Hs : Hid (∃ z : Int, ∀ W, Below w.heap.size w W → Gives Tryz.prog 14 #[.agg #[.string s, .string t]] W (.int .i64 z)) ∧ True := by
    refine ⟨?_, trivial⟩
    by_cases h : IsQ s t
    · obtain ⟨q, rfl, rfl, hq⟩ := h
      exact ⟨0, fun W hW => checkR W q hq (L.below hW)⟩
    · exact ⟨2, fun W hW => checkS_no W s t hs ht h (L.below hW)⟩
  have Hz : ∃ z : Int, (z == 0) = !(wrongB (s, t)) ∧ ∀ W, Below w.heap.size w W → Gives Tryz.prog 14 #[.agg #[.string s, .string t]] W (.int .i64 z) := by
    by_cases h : IsQ s t
    · refine ⟨0, by unfold wrongB; rw [decide_eq_true h]; rfl, ?_⟩
      obtain ⟨q, rfl, rfl, hq⟩ := h
      exact fun W hW => checkR W q hq (L.below hW)
    · exact ⟨2, by unfold wrongB; rw [decide_eq_false h]; rfl, fun W hW => checkS_no W s t hs ht h (L.below hW)⟩
  obtain ⟨z, hz, hc⟩ := Hz
  have Hc := Lib.hid hc
  clear Hs hc hs ht L
  unfold Gives
  generalize wrongB (s, t) = b at *
  have B1 := Lib.hid ((Below.refl w.heap.size w).alloc (Nat.le_refl _) (.cells #[.string s, .string t] 30))
  go_enter Tryz.func57, Tryz.ntmps57
  go_wp2_with fail
  refine Calls.mono (Hc.out _ B1.out) ?_
  rintro e w1 ⟨rfl, hb⟩
  have B2 := Lib.hid (B1.out.trans (hb.mono B1.out.size))
  have Hz := Lib.hid hz
  clear hb hz
  go_wp2_with fail
  go_ret
  refine ⟨?_, B2.out⟩
  have := Hz.out
  cases b
  · have h1 : (z == 0) = true := this
    have h2 : z = 0 := by simpa using h1
    subst h2; rfl
  · have h1 : (z == 0) = false := this
    have h2 : z ≠ 0 := by simpa using h1
    show Ending.returned (Value.bool _) = _
    first | rfl | (simp [h2])

end Go.Proofs.YtlomhfknmhaboaaGreatDoor

/- size.Combine at whatever comes: its test of the factors, its errors, its sum. -/
namespace Go.Proofs.YtlomhfknmhaboaaGreatDoor
open Go.RowKit

set_option maxRecDepth 100000 in
set_option maxHeartbeats 4000000 in
theorem index_wrong (w : World) (a : Option Addr) (c : Nat) (l : Pairs) (hr : Rd w a (cellsS l)) (hl : l.length ≤ 1000) (hs : Ssz l) (L : Laid w) :
    Calls Tryz.prog 100 #[.slice a l.length c, .func (.func 57) #[] #[]] w fun e w' => ∃ i : Int, e = .returned (.int .i64 i) ∧ -1 ≤ i ∧ decide (0 ≤ i) = !rightAll l ∧ Below w.heap.size w w' := by
  have Hr := Lib.hid hr
  have Hs := Lib.hid hs
  have HL := Lib.hid L
  clear hr hs L
  have Hall : Hid (∀ k, k ≤ l.length → (∀ j (h : j < l.length), j < k → wrongB l[j] = false) → k = l.length → rightAll l = true) := fun k hk h hkl => by
    unfold rightAll
    rw [List.all_eq_true]
    intro q hq
    obtain ⟨j, hj, rfl⟩ := List.mem_iff_getElem.1 hq
    have := h j hj (by omega)
    unfold wrongB at this
    simpa using this
  have Hone : Hid (∀ k (h : k < l.length), wrongB l[k] = true → rightAll l = false) := fun k h hf => by
    unfold rightAll
    rw [List.all_eq_false]
    unfold wrongB at hf
    exact ⟨l[k], List.getElem_mem h, by simpa using hf⟩
  obtain ⟨m, hm⟩ : ∃ m, l.length = m := ⟨_, rfl⟩
  rw [hm] at hl ⊢
  have Hm := Lib.hid hm
  clear hm
  generalize rightAll l = z at *
  go_enter Tryz.func100, Tryz.ntmps100
  go_wp2_with fail
  go_loopw [8] (fun i wr => ∃ k : Nat, k ≤ m ∧ i = .int .i64 k ∧ Hid (∀ j (h : j < l.length), j < k → wrongB l[j] = false) ∧ Hid (Below w.heap.size w wr)) (fun i _ => m - (intOf i).toNat)
  case atStart => exact ⟨0, Nat.zero_le _, rfl, fun j _ hj => absurd hj (Nat.not_lt_zero _), Below.refl _ _⟩
  case round =>
    obtain ⟨k, hk, rfl, Hp, B⟩ := hrel
    by_cases hlt : k < m
    · have hlt' : (k : Int) < m := by omega
      have hkb : k < l.length := by rw [Hm.out]; exact hlt
      obtain ⟨b, off, rfl, hb, hcells⟩ := Hr.out.open (by rw [cellsS_length, Hm.out]; omega)
      obtain ⟨x0, x1⟩ := cellsS_rd hcells k hkb
      rw [← B.out.cell (p := ⟨b, off + k * 2, none⟩) hb, show l.getD k default = l[k] by rw [List.getD_eq_getElem?_getD, List.getElem?_eq_getElem hkb]; rfl] at x0
      rw [← B.out.cell (p := ⟨b, off + k * 2 + 1, none⟩) hb, show l.getD k default = l[k] by rw [List.getD_eq_getElem?_getD, List.getElem?_eq_getElem hkb]; rfl] at x1
      have hsz := Hs.out _ (List.getElem_mem hkb)
      have Hc : Hid (Gives Tryz.prog 57 #[.agg #[.string l[k].1, .string l[k].2]] wr (.bool (wrongB l[k]))) := wrongR wr _ _ (by omega) (by omega) (HL.out.below B.out)
      clear hcells hsz
      by_cases hs : wrongB l[k] = false
      · have Hp' : Hid (∀ j (h : j < l.length), j < k + 1 → wrongB l[j] = false) := fun j h hj => by
          rcases Nat.lt_or_ge j k with hh | hh
          · exact Hp.out j h hh
          · have e : j = k := by omega
            subst e
            exact hs
        rw [hs] at Hc
        clear hs Hp
        generalize l[k] = x at *
        go_wp2_with fail
        refine Calls.mono Hc.out ?_
        rintro e w1 ⟨rfl, hb1⟩
        have B1 := Lib.hid (B.out.trans (hb1.mono B.out.size))
        clear hb1 Hc B x0 x1
        go_wp2_with fail
        go_roundw
        case rel => exact ⟨k + 1, by omega, by go_num, Hp', B1⟩
        case measure => simp [intOf]; omega
      · have hs' : wrongB l[k] = true := by simpa using hs
        have Hz := Lib.hid (Hone.out k hkb hs')
        rw [hs'] at Hc
        clear hs hs' Hp
        generalize l[k] = x at *
        go_wp2_with fail
        refine Calls.mono Hc.out ?_
        rintro e w1 ⟨rfl, hb1⟩
        have B1 := Lib.hid (B.out.trans (hb1.mono B.out.size))
        clear hb1 Hc B x0 x1
        go_wp2_with fail
        go_ret
        exact ⟨k, rfl, by omega, by rw [Hz.out]; exact decide_eq_true (by omega), B1.out⟩
    · have hlt' : ¬ (k : Int) < m := by omega
      have Hz := Lib.hid (Hall.out k (by rw [Hm.out]; exact hk) Hp.out (by rw [Hm.out]; omega))
      clear Hp
      go_wp2_with fail
      go_ret
      exact ⟨-1, rfl, by decide, by rw [Hz.out]; rfl, B.out⟩

set_option maxHeartbeats 4000000 in
theorem contains_wrong (w : World) (a : Option Addr) (c : Nat) (l : Pairs) (hr : Rd w a (cellsS l)) (hl : l.length ≤ 1000) (hs : Ssz l) (L : Laid w) :
    Gives Tryz.prog 56 #[.slice a l.length c, .func (.func 57) #[] #[]] w (.bool (!rightAll l)) := by
  unfold Gives
  have Hi := Lib.hid (index_wrong w a c l hr hl hs L)
  clear hr hl hs L
  generalize rightAll l = z at *
  go_enter Tryz.func56, Tryz.ntmps56
  go_wp2_with fail
  refine Calls.mono Hi.out ?_
  rintro e w1 ⟨i, rfl, hi1, hi2, hb⟩
  have B := Lib.hid hb
  have Hz := Lib.hid hi2
  clear hb Hi hi2
  go_wp2_with fail
  go_ret
  exact ⟨by rw [← Hz.out]; rfl, B.out⟩

set_option maxHeartbeats 4000000 in
theorem combine_err (w : World) (a0 a1 a2 : Option Addr) (c0 c1 c2 m : Nat) (ps : List Int) (ls : List Pairs) (rp : Rd w a0 (ints ps)) (hi : I64s ps) (hl0 : ps.length ≤ 1000000) (rl : RdL w a1 ls) (hl : ls.length ≤ 1000000) (hl2 : ∀ l ∈ ls, l.length ≤ 1000000 ∧ Ssz l)
    (hc : lcode ps ls ≠ 0) (L : Laid w) : GivesErr 16 #[.slice a0 ps.length c0, .slice a1 ls.length c1, .slice a2 m c2] w (lcode ps ls) := by
  unfold GivesErr Gives
  have H1 := Lib.hid (checkAll_any w a0 a1 c0 c1 ps ls rp hi hl0 rl hl hl2 L)
  have hp0 : (lcode ps ls == 0) = false := by rw [beq_eq_false_iff_ne]; exact hc
  clear rp hi hl0 rl hl hl2 hc L
  generalize lcode ps ls = p at *
  generalize ps.length = n at *
  generalize ls.length = k at *
  go_enter Tryz.func16, Tryz.ntmps16
  go_wp2_with fail
  refine Calls.mono H1.out ?_
  rintro e w1 ⟨rfl, hb1⟩
  have Hb1 := Lib.hid hb1
  clear hb1 H1
  go_wp2_with fail
  go_ret2
  exact ⟨rfl, Hb1.out⟩

set_option maxHeartbeats 4000000 in
theorem combine_len (w : World) (a0 a1 a2 : Option Addr) (c0 c1 c2 m : Nat) (ps : List Int) (ls : List Pairs) (rp : Rd w a0 (ints ps)) (hi : I64s ps) (hl0 : ps.length ≤ 1000000) (rl : RdL w a1 ls) (hl : ls.length ≤ 1000000) (hl2 : ∀ l ∈ ls, l.length ≤ 1000000 ∧ Ssz l)
    (hc : lcode ps ls = 0) (hm : m ≠ ls.length) (L : Laid w) : GivesErr 16 #[.slice a0 ps.length c0, .slice a1 ls.length c1, .slice a2 m c2] w 5 := by
  unfold GivesErr Gives
  have H1 := Lib.hid (checkAll_any w a0 a1 c0 c1 ps ls rp hi hl0 rl hl hl2 L)
  rw [hc] at H1
  have hm0 : ((m : Int) == ls.length) = false := by rw [beq_eq_false_iff_ne]; omega
  clear rp hi hl0 rl hl hl2 hc L hm
  generalize ps.length = n at *
  generalize ls.length = k at *
  go_enter Tryz.func16, Tryz.ntmps16
  go_wp2_with fail
  refine Calls.mono H1.out ?_
  rintro e w1 ⟨rfl, hb1⟩
  have Hb1 := Lib.hid hb1
  clear hb1 H1
  go_wp2_with fail
  go_ret2
  exact ⟨rfl, Hb1.out⟩

set_option maxHeartbeats 4000000 in
theorem combine_bad (w : World) (a0 a1 a2 : Option Addr) (c0 c1 c2 : Nat) (ps : List Int) (ls : List Pairs) (fs : Pairs) (rp : Rd w a0 (ints ps)) (hi : I64s ps) (hl0 : ps.length ≤ 1000000) (rl : RdL w a1 ls) (hl : ls.length ≤ 1000) (hl2 : ∀ l ∈ ls, l.length ≤ 1000000 ∧ Ssz l)
    (hc : lcode ps ls = 0) (rf : Rd w a2 (cellsS fs)) (hf : fs.length = ls.length) (hfs : Ssz fs) (hw : rightAll fs = false) (L : Laid w) : GivesErr 16 #[.slice a0 ps.length c0, .slice a1 ls.length c1, .slice a2 fs.length c2] w 2 := by
  unfold GivesErr Gives
  have H1 := Lib.hid (checkAll_any w a0 a1 c0 c1 ps ls rp hi hl0 rl (by omega) hl2 L)
  have H2 : Hid (∀ W, Below w.heap.size w W → Gives Tryz.prog 56 #[.slice a2 fs.length c2, .func (.func 57) #[] #[]] W (.bool true)) := fun W hW => by
    have := contains_wrong W a2 c2 fs (rf.below hW (Nat.le_refl _)) (by omega) hfs (L.below hW)
    rw [hw] at this
    exact this
  rw [hc] at H1
  rw [hf] at *
  clear rp hi hl0 rl hl hl2 hc L rf hfs hw
  generalize ps.length = n at *
  generalize ls.length = k at *
  go_enter Tryz.func16, Tryz.ntmps16
  go_wp2_with fail
  refine Calls.mono H1.out ?_
  rintro e w1 ⟨rfl, hb1⟩
  have Hb1 := Lib.hid hb1
  clear hb1 H1
  go_wp2_with fail
  refine Calls.mono (H2.out _ Hb1.out) ?_
  rintro e w2 ⟨rfl, hb2⟩
  have Hb2 := Lib.hid (Hb1.out.trans (hb2.mono Hb1.out.size))
  clear hb2 H2 Hb1
  go_wp2_with fail
  go_ret2
  exact ⟨rfl, Hb2.out⟩

theorem lgo_ok (n : Nat) : ∀ ls : List (List Rat), (∀ l ∈ ls, l.length = n ∧ ∀ q ∈ l, Sm 30 q) → lgo n (ls.map (List.map qs)) = 0
  | [], _ => rfl
  | l :: ls, h => by
    have h1 := h l List.mem_cons_self
    rw [List.map_cons, lgo, if_pos (scode_ok h1.2 h1.1)]
    exact lgo_ok n ls fun m hm => h m (List.mem_cons_of_mem _ hm)

theorem lcode_ok {ps : List Int} (hp : pcode ps = 0) {ls : List (List Rat)} (h : ∀ l ∈ ls, l.length = ps.length ∧ ∀ q ∈ l, Sm 30 q) : lcode ps (ls.map (List.map qs)) = 0 := by
  unfold lcode
  rw [if_pos hp]
  exact lgo_ok _ ls h

open Classical in
theorem rightAll_qs (l : List Rat) (h : ∀ q ∈ l, Sm 400 q) : rightAll (l.map qs) = true := by
  unfold rightAll
  rw [List.all_eq_true]
  intro x hx
  obtain ⟨q, hq, rfl⟩ := List.mem_map.1 hx
  exact decide_eq_true ⟨q, rfl, rfl, h q hq⟩

/-- The sum of sizes, each times its factor, or the error that it is too long. -/
def GivesSum (f : FuncId) (args : Array Value) (w : World) (l : List Rat) : Prop := if shortAll l = true then
    Calls Tryz.prog f args w fun e w' => ∃ a c, e = .returned (.tuple #[.slice a l.length c, .int .i64 0]) ∧ Rd w' a (cellsQ l) ∧ Below w.heap.size w w'
  else GivesErr f args w 4

set_option maxRecDepth 100000 in
set_option maxHeartbeats 8000000 in
theorem combine_fine (w : World) (a0 a1 a2 : Option Addr) (c0 c1 c2 : Nat) (ps : List Int) (ls : List (List Rat)) (fs : List Rat) (rp : Rd w a0 (ints ps)) (hi : I64s ps) (hp : pcode ps = 0) (rl : RdL w a1 (ls.map (List.map qs))) (hl : ls.length ≤ 100)
    (h : ∀ l ∈ ls, l.length = ps.length ∧ ∀ q ∈ l, Sm 30 q) (rf : Rd w a2 (cellsQ fs)) (hf : fs.length = ls.length) (hfs : ∀ q ∈ fs, Sm 400 q) (L : Laid w) :
    GivesSum 16 #[.slice a0 ps.length c0, .slice a1 ls.length c1, .slice a2 fs.length c2] w (sumQ ps.length ls fs) := by
  have hn := pcode_pos hp
  have H1 := Lib.hid (checkAll_any w a0 a1 c0 c1 ps (ls.map (List.map qs)) rp hi (by omega) rl (by rw [List.length_map]; omega) (by
    intro l hl'
    obtain ⟨m, hm, rfl⟩ := List.mem_map.1 hl'
    exact ⟨by rw [List.length_map, (h m hm).1]; omega, ssz_ok (h m hm).2⟩) L)
  rw [lcode_ok hp h, List.length_map] at H1
  have H2 : Hid (∀ W, Below w.heap.size w W → Gives Tryz.prog 56 #[.slice a2 fs.length c2, .func (.func 57) #[] #[]] W (.bool false)) := fun W hW => by
    have := contains_wrong W a2 c2 (fs.map qs) (rf.below hW (Nat.le_refl _)) (by rw [List.length_map]; omega) (fun x hx => by
      obtain ⟨q, hq, rfl⟩ := List.mem_map.1 hx
      have h1 := itx_size q.num 400 (by decide) (hfs q hq).1
      have h2 := (size_lt q.den 400 (by decide)).2 (hfs q hq).2
      exact ⟨by show (itx q.num).size ≤ _; omega, by show (dec q.den).size ≤ _; omega⟩) (L.below hW)
    rw [rightAll_qs fs hfs, List.length_map] at this
    exact this
  have H3 : Hid (∀ W, Below w.heap.size w W → GivesQ 59 #[.int .i64 ps.length, .slice a1 ls.length c1, .slice a2 fs.length c2] W (sumQ ps.length ls fs)) := fun W hW =>
    sum_any W a1 a2 c1 c2 ps.length ls fs 30 400 (rl.below hW (Nat.le_refl _)) (rf.below hW (Nat.le_refl _)) (fun l hl' => (h l hl').1) hf (fun l hl' => (h l hl').2) hfs (by omega) (by omega) (by
      have : (ls.length + 1) * (30 + 400 + 1) ≤ 101 * (30 + 400 + 1) := Nat.mul_le_mul_right _ (by omega)
      omega) (L.below hW)
  have hsl := sumQ_length ps.length ls fs (fun l hl' => (h l hl').1) hf
  have H4 : Hid (∀ W a c, Rd W a (cellsQ (sumQ ps.length ls fs)) → shortAll (sumQ ps.length ls fs) = true → Gives Tryz.prog 58 #[.slice a (sumQ ps.length ls fs).length c] W (.tuple #[.slice a (sumQ ps.length ls fs).length c, .int .i64 0])) := fun W a c hr hs => result_fine W a c _ hr (by omega) hs
  have H5 : Hid (∀ W a c, Rd W a (cellsQ (sumQ ps.length ls fs)) → shortAll (sumQ ps.length ls fs) = false → Gives Tryz.prog 58 #[.slice a (sumQ ps.length ls fs).length c] W (.tuple #[.slice none 0 0, .int .i64 4])) := fun W a c hr hs => result_long W a c _ hr (by omega) hs
  unfold GivesQ at H3
  clear rp hi hp rl hl h rf hfs L hn hsl
  rw [hf] at *
  generalize sumQ ps.length ls fs = S at *
  generalize ps.length = n at *
  generalize ls.length = k at *
  unfold GivesSum GivesErr Gives
  by_cases hs : shortAll S = true
  · rw [if_pos hs]
    have Hs := Lib.hid hs
    clear H5 hs
    go_enter Tryz.func16, Tryz.ntmps16
    go_wp2_with fail
    refine Calls.mono H1.out ?_
    rintro e w1 ⟨rfl, hb1⟩
    have Hb1 := Lib.hid hb1
    clear hb1 H1
    go_wp2_with fail
    refine Calls.mono (H2.out _ Hb1.out) ?_
    rintro e w2 ⟨rfl, hb2⟩
    have Hb2 := Lib.hid (Hb1.out.trans (hb2.mono Hb1.out.size))
    clear hb2 H2 Hb1
    go_wp2_with fail
    refine Calls.mono (H3.out _ Hb2.out) ?_
    rintro e w3 ⟨a, c, rfl, ho, hb3⟩
    have Hb3 := Lib.hid (Hb2.out.trans (hb3.mono Hb2.out.size))
    have Hr := Lib.hid ho.rd
    clear hb3 H3 Hb2 ho
    go_wp2_with fail
    refine Calls.mono (H4.out _ _ _ Hr.out Hs.out) ?_
    rintro e w4 ⟨rfl, hb4⟩
    have Hb4 := Lib.hid (Hb3.out.trans (hb4.mono Hb3.out.size))
    have Hr4 := Lib.hid (Hr.out.below hb4 (Nat.le_refl _))
    clear hb4 H4 Hb3 Hr
    go_wp2_with fail
    go_ret2
    exact ⟨a, c, rfl, Hr4.out, Hb4.out⟩
  · rw [if_neg hs]
    have Hs : Hid (shortAll S = false) := by show _ = _; simpa using hs
    clear H4 hs
    go_enter Tryz.func16, Tryz.ntmps16
    go_wp2_with fail
    refine Calls.mono H1.out ?_
    rintro e w1 ⟨rfl, hb1⟩
    have Hb1 := Lib.hid hb1
    clear hb1 H1
    go_wp2_with fail
    refine Calls.mono (H2.out _ Hb1.out) ?_
    rintro e w2 ⟨rfl, hb2⟩
    have Hb2 := Lib.hid (Hb1.out.trans (hb2.mono Hb1.out.size))
    clear hb2 H2 Hb1
    go_wp2_with fail
    refine Calls.mono (H3.out _ Hb2.out) ?_
    rintro e w3 ⟨a, c, rfl, ho, hb3⟩
    have Hb3 := Lib.hid (Hb2.out.trans (hb3.mono Hb2.out.size))
    have Hr := Lib.hid ho.rd
    clear hb3 H3 Hb2 ho
    go_wp2_with fail
    refine Calls.mono (H5.out _ _ _ Hr.out Hs.out) ?_
    rintro e w4 ⟨rfl, hb4⟩
    have Hb4 := Lib.hid (Hb3.out.trans (hb4.mono Hb3.out.size))
    clear hb4 H5 Hb3 Hr
    go_wp2_with fail
    go_ret2
    exact ⟨rfl, Hb4.out⟩

end Go.Proofs.YtlomhfknmhaboaaGreatDoor

/- The law functions of layer 13: short, equal, Make. -/
namespace Go.Proofs.YtlomhfknmhaboaaGreatDoor
open Go.RowKit

set_option maxHeartbeats 4000000 in
theorem digits_any (w : World) (s : ByteArray) : Gives Tryz.prog 62 #[.string s] w (.int .i64 s.size) := by
  unfold Gives
  go_enter Tryz.func62, Tryz.ntmps62
  go_wp2_with fail
  go_ret
  exact ⟨rfl, Below.refl _ _⟩

theorem short_iff (q : Rat) : decide (shortQ q) = (decide (((dec q.num.natAbs).size : Int) ≤ 30) && decide (((dec q.den).size : Int) ≤ 30)) := by
  rw [← Bool.decide_and, decide_eq_decide]
  unfold shortQ
  rw [← size_lt _ _ (by decide), ← size_lt _ _ (by decide)]
  omega

set_option maxHeartbeats 8000000 in
theorem lshort_any (w : World) (q : Rat) : Gives Tryz.prog 19 #[fr q] w (.bool (decide (shortQ q))) := by
  unfold Gives
  rw [short_iff q]
  have Ha := Lib.hid (fun W => abs_any W q.num)
  have Hd1 := Lib.hid (fun W => digits_any W (dec q.num.natAbs))
  have Hd2 := Lib.hid (fun W => digits_any W (dec q.den))
  unfold fr fv
  have B0 := Lib.hid ((Below.refl w.heap.size w).alloc (Nat.le_refl _) (.cells #[.string (itx q.num), .string (dec q.den)] 30))
  have N0 := Lib.hid (heap_at w #[.string (itx q.num), .string (dec q.den)] 30 _ rfl)
  generalize itx q.num = s at *
  generalize dec q.num.natAbs = s1 at *
  generalize dec q.den = t at *
  by_cases h1 : (s1.size : Int) ≤ 30
  · rw [decide_eq_true h1, Bool.true_and]
    obtain ⟨z, hz⟩ : ∃ z, decide ((t.size : Int) ≤ 30) = z := ⟨_, rfl⟩
    rw [hz]
    go_enter Tryz.func19, Tryz.ntmps19
    obtain ⟨k0, k1, -, -⟩ := two_cells N0.out
    go_wp2_with fail
    generalize w.alloc (.cells #[.string s, .string t] 30) = W0 at *
    clear k0 k1
    refine Calls.mono (Ha.out _) ?_
    rintro e w1 ⟨rfl, hb1⟩
    have B1 := Lib.hid (B0.out.trans (hb1.mono B0.out.size))
    have N1 := Lib.hid (heap_kept N0.out hb1 (Nat.le_refl _))
    clear hb1 Ha B0 N0
    go_wp2_with fail
    refine Calls.mono (Hd1.out _) ?_
    rintro e w2 ⟨rfl, hb2⟩
    have B2 := Lib.hid (B1.out.trans (hb2.mono B1.out.size))
    have N2 := Lib.hid (heap_kept N1.out hb2 (Nat.le_refl _))
    clear hb2 Hd1 B1 N1
    obtain ⟨k0, k1, -, -⟩ := two_cells N2.out
    go_wp2_with fail
    refine Calls.mono (Hd2.out _) ?_
    rintro e w3 ⟨rfl, hb3⟩
    have B3 := Lib.hid (B2.out.trans (hb3.mono B2.out.size))
    have Hz := Lib.hid hz
    clear hb3 Hd2 B2 N2 k0 k1 hz
    go_wp2_with fail
    go_ret
    exact ⟨by rw [← Hz.out]; rfl, B3.out⟩
  · rw [decide_eq_false h1, Bool.false_and]
    clear Hd2
    go_enter Tryz.func19, Tryz.ntmps19
    obtain ⟨k0, k1, -, -⟩ := two_cells N0.out
    go_wp2_with fail
    generalize w.alloc (.cells #[.string s, .string t] 30) = W0 at *
    clear k0 k1
    refine Calls.mono (Ha.out _) ?_
    rintro e w1 ⟨rfl, hb1⟩
    have B1 := Lib.hid (B0.out.trans (hb1.mono B0.out.size))
    clear hb1 Ha B0 N0
    go_wp2_with fail
    refine Calls.mono (Hd1.out _) ?_
    rintro e w2 ⟨rfl, hb2⟩
    have B2 := Lib.hid (B1.out.trans (hb2.mono B1.out.size))
    clear hb2 Hd1 B1
    go_wp2_with fail
    go_ret
    exact ⟨rfl, B2.out⟩

set_option maxRecDepth 100000 in
set_option maxHeartbeats 8000000 in
theorem equal_any (w : World) (a1 a2 : Option Addr) (c1 c2 : Nat) (la lb : List Rat) (r1 : Rd w a1 (cellsQ la)) (r2 : Rd w a2 (cellsQ lb)) (hbig : la.length ≤ 1000000) :
    Gives Tryz.prog 20 #[.slice a1 la.length c1, .slice a2 lb.length c2] w (.bool (decide (la = lb))) := by
  unfold Gives
  by_cases hl : la.length = lb.length
  · have R1 := Lib.hid r1
    have R2 := Lib.hid r2
    have Hyes : Hid (∀ k, (∀ j (h1 : j < la.length) (h2 : j < lb.length), j < k → la[j] = lb[j]) → k = la.length → la = lb) := fun k h hk => List.ext_getElem hl fun i h1 h2 => h i h1 h2 (by omega)
    have Hno : Hid (∀ k (h1 : k < la.length) (h2 : k < lb.length), la[k] ≠ lb[k] → ¬ la = lb) := fun k h1 h2 hne he => hne (by subst he; rfl)
    obtain ⟨n, hn⟩ : ∃ n, la.length = n := ⟨_, rfl⟩
    have hm : lb.length = n := hl.symm.trans hn
    rw [hn] at hbig
    rw [hn, hm]
    have Hn := Lib.hid hn
    have Hm := Lib.hid hm
    clear hl r1 r2 hn hm
    go_enter Tryz.func20, Tryz.ntmps20
    go_wp2_with fail
    go_loopw [5] (fun i wr => ∃ k : Nat, k ≤ n ∧ i = .int .i64 k ∧ Hid (∀ j (h1 : j < la.length) (h2 : j < lb.length), j < k → la[j] = lb[j]) ∧ Hid (Below w.heap.size w wr)) (fun i _ => n - (intOf i).toNat)
    case atStart => exact ⟨0, Nat.zero_le _, rfl, fun j _ _ hj => absurd hj (Nat.not_lt_zero _), Below.refl _ _⟩
    case round =>
      obtain ⟨k, hk, rfl, Hp, B⟩ := hrel
      by_cases hlt : k < n
      · have hlt' : (k : Int) < n := by omega
        have h1 : k < la.length := by rw [Hn.out]; exact hlt
        have h2 : k < lb.length := by rw [Hm.out]; exact hlt
        obtain ⟨b, off, rfl, hb, hcells⟩ := R1.out.open (by rw [cellsQ_length]; omega)
        obtain ⟨x0, x1⟩ := cellsS_rd hcells k (by rw [List.length_map]; exact h1)
        rw [← B.out.cell (p := ⟨b, off + k * 2, none⟩) hb, qs_getD _ k h1] at x0
        rw [← B.out.cell (p := ⟨b, off + k * 2 + 1, none⟩) hb, qs_getD _ k h1] at x1
        obtain ⟨b', off', rfl, hb', hcells'⟩ := R2.out.open (by rw [cellsQ_length]; omega)
        obtain ⟨y0, y1⟩ := cellsS_rd hcells' k (by rw [List.length_map]; exact h2)
        rw [← B.out.cell (p := ⟨b', off' + k * 2, none⟩) hb', qs_getD _ k h2] at y0
        rw [← B.out.cell (p := ⟨b', off' + k * 2 + 1, none⟩) hb', qs_getD _ k h2] at y1
        have Hp' : Hid (la[k] = lb[k] → ∀ j (h1 : j < la.length) (h2 : j < lb.length), j < k + 1 → la[j] = lb[j]) := fun he j g1 g2 hj => by
          rcases Nat.lt_or_ge j k with h | h
          · exact Hp.out j g1 g2 h
          · have e : j = k := by omega
            subst e; exact he
        have Hnk := Lib.hid (Hno.out k h1 h2)
        clear hcells hcells' Hp
        simp only [qs] at x0 x1 y0 y1
        generalize la[k] = p at *
        generalize lb[k] = q at *
        have q0 := cell_regrown x0
        have q1 := cell_regrown x1
        have q2 := cell_regrown y0
        have q3 := cell_regrown y1
        have HK := Lib.hid hlt
        go_wp2_with fail
        clear x0 x1 y0 y1
        refine wp_region_quiet_below (by kernel_rfl) (by kernel_rfl) ?_
        repeat (first | go_big_quiet_step (fail) | quiet_step (fail))
        refine BigFrame.wpQuiet_want rfl fun K hK => quiet_neqQ _ _ _ p q rfl rfl rfl (hK _ ?_)
        refine wpQuiet_nil ?_
        intro w6 hw6
        obtain ⟨⟨dq, osq⟩, rfl⟩ := hw6
        have B6 := Lib.hid (B.out.trans ((below_regrown wr dq osq).mono B.out.size))
        clear q0 q1 q2 q3 B
        generalize Go.Sort.grow (redrawn wr dq) osq = w6 at *
        by_cases hpq : p = q
        · rw [decide_eq_true hpq]
          have Hq := Lib.hid (Hp'.out hpq)
          clear hpq Hp' Hnk
          go_wp2_with fail
          go_roundw
          case rel => exact ⟨k + 1, HK.out, by go_num, Hq, B6⟩
          case measure => simp [intOf]; omega
        · rw [decide_eq_false hpq]
          have Hz : Hid (decide (la = lb) = false) := decide_eq_false (Hnk.out hpq)
          clear hpq Hp' Hnk
          go_wp2_with fail
          go_ret
          exact ⟨by rw [Hz.out]; rfl, B6.out⟩
      · have hlt' : ¬ (k : Int) < n := by omega
        have Hz : Hid (decide (la = lb) = true) := decide_eq_true (Hyes.out k Hp.out (by rw [Hn.out]; omega))
        clear Hp
        go_wp2_with fail
        go_ret
        exact ⟨by rw [Hz.out]; rfl, B.out⟩
  · have Hz : Hid (decide (la = lb) = false) := decide_eq_false fun h => hl (by rw [h])
    have hne : ((la.length : Int) == lb.length) = false := by rw [beq_eq_false_iff_ne]; omega
    clear r1 r2 hl
    generalize la.length = n at *
    generalize lb.length = m at *
    go_enter Tryz.func20, Tryz.ntmps20
    go_wp2_with fail
    go_ret
    exact ⟨by rw [Hz.out]; rfl, Below.refl _ _⟩

end Go.Proofs.YtlomhfknmhaboaaGreatDoor

/- As RMovx, where two movers may come up at once: the walk parts there. -/
namespace Go.Proofs.YtlomhfknmhaboaaGreatDoor.RT
open Go Go.Sort Go.Proofs.YtlomhfknmhaboaaGreatDoor Go.Proofs.YtlomhfknmhaboaaGreatDoor.RX

section
variable {P : Program} {ops : Array Oper} {md : Region.Mode} {C : World → Prop}

/-- An order that parts. -/
inductive RTree where
  | nil : RTree
  | rd : Nat → Nat → RTree → RTree
  | mv : Nat → RTree → RTree
  | two : Nat → Nat → RTree → RTree → RTree

def RTree.len : RTree → Nat
  | .nil => 0
  | .rd _ _ t => t.len + 1
  | .mv _ t => t.len + 1
  | .two _ _ t _ => t.len + 1

def ordT (md : Region.Mode) (ops : Array Oper) (s : Nat) : RTree → Array Bool → Bool
  | .nil, listed => (Region.ready md ops listed).isEmpty
  | .rd k i t, listed =>
    ((Region.ready md ops listed).contains i && Region.free md ops listed i && (match ops[i]? with | some o => noEnter o.op | none => false) && decide (i ≠ s) && (k == 2 || reachB md ops 4 s i)) &&
    ordT md ops s t (listed.setIfInBounds i true)
  | .mv i t, listed => decide (Region.ready md ops listed = [i]) && ordT md ops s t (listed.setIfInBounds i true)
  | .two i j t u, listed => (decide (Region.ready md ops listed = [i, j]) && decide (t.len = u.len)) && (ordT md ops s t (listed.setIfInBounds i true) && ordT md ops s u (listed.setIfInBounds j true))

def walkT (P : Program) (ops : Array Oper) (C : World → Prop) (s : Nat) (Q : Act → World → Prop) : RTree → Bool → Act → World → Prop
  | .nil, _, a, w => Q a w
  | .rd k i t, b, a, w => if k = 2 then wpQuiet P ops (fun _ => True) (fun a' => walkT P ops C s Q t b a' w) (ops[i]?).toList a else wpQuiet P ops C (fun a' => walkT P ops C s Q t b a' w) (ops[i]?).toList a
  | .mv i t, b, a, w => wpList P ops (fun e a' w' => e = .normal ∧ ((b || i == s) = true ∨ C w') ∧ walkT P ops C s Q t (b || i == s) a' w') (ops[i]?).toList a w
  | .two i j t u, b, a, w =>
    wpList P ops (fun e a' w' => e = .normal ∧ ((b || i == s) = true ∨ C w') ∧ walkT P ops C s Q t (b || i == s) a' w') (ops[i]?).toList a w ∧
    wpList P ops (fun e a' w' => e = .normal ∧ ((b || j == s) = true ∨ C w') ∧ walkT P ops C s Q u (b || j == s) a' w') (ops[j]?).toList a w

theorem set_getD {s i : Nat} {listed : Array Bool} (inv : RInv md ops listed) (hr : i ∈ Region.ready md ops listed) : (listed.setIfInBounds i true).getD s false = (listed.getD s false || i == s) := by
  by_cases his : i = s
  · subst his
    obtain ⟨hun, o, ho, _⟩ := mem_ready.1 hr
    have hlt : i < listed.size := by rw [inv.size]; exact (Array.getElem?_eq_some_iff.1 ho).1
    simp [hlt]
  · rw [getD_set_ne false his]
    simp [his]

/-- One mover, taken. -/
theorem step_mv {s j : Nat} {K : Act → World → Prop} {listed : Array Bool} {a : Act} {w : World} (inv : RInv md ops listed) (hr : j ∈ Region.ready md ops listed)
    (h : wpList P ops (fun e a' w' => e = .normal ∧ ((listed.getD s false || j == s) = true ∨ C w') ∧ K a' w') (ops[j]?).toList a w) :
    wpOp P ops (fun _ _ _ => False) j (fun a' w' => safeW C s (listed.setIfInBounds j true) w' ∧ K a' w') a w := by
  obtain ⟨hun, o, ho, _⟩ := mem_ready.1 hr
  simp only [ho, Option.toList] at h
  have h2 : wpOp P ops (fun e a' w' => e = .normal ∧ ((listed.getD s false || j == s) = true ∨ C w') ∧ K a' w') j (fun a' w' => ((listed.getD s false || j == s) = true ∨ C w') ∧ K a' w') a w := by
    unfold wpOp
    simp only [ho]
    simp only [wpList, true_and] at h
    exact h
  have h3 := wpOp_strong (fun e a' w' hq => hq.1) h2
  refine wpOp_mono (fun a' w' h4 => ⟨?_, h4.2⟩) h3
  unfold safeW
  rw [set_getD inv hr]
  exact h4.1

theorem anyR_tree {s : Nat} {Q : Act → World → Prop} (hsel : Region.noSelect ops = true) :
    ∀ (l : RTree) (listed : Array Bool) (a : Act) (w : World), RInv md ops listed → safeW C s listed w → ordT md ops s l listed = true →
      walkT P ops C s Q l (listed.getD s false) a w → anyR P md ops C s Q l.len listed a w
  | .nil, listed, a, w, _, _, hB, h => ⟨by simpa [ordT] using hB, h⟩
  | .mv i t, listed, a, w, inv, hs, hB, h => by
    simp only [ordT, Bool.and_eq_true, decide_eq_true_eq] at hB
    obtain ⟨hB1, hB2⟩ := hB
    have hr : i ∈ Region.ready md ops listed := by rw [hB1]; exact List.mem_singleton.2 rfl
    refine ⟨by rw [hB1]; simp, fun j hj => ?_⟩
    rw [hB1] at hj
    obtain rfl := List.mem_singleton.1 hj
    refine wpOp_mono (fun a' w' h4 => ⟨h4.1, anyR_tree hsel t _ a' w' (inv.set hr) h4.1 hB2 ?_⟩) (step_mv inv hr h)
    rw [set_getD inv hr]
    exact h4.2
  | .two i k t u, listed, a, w, inv, hs, hB, h => by
    simp only [ordT, Bool.and_eq_true, decide_eq_true_eq] at hB
    obtain ⟨⟨hB1, hlen⟩, hB2, hB3⟩ := hB
    have hr : i ∈ Region.ready md ops listed := by rw [hB1]; simp
    have hr2 : k ∈ Region.ready md ops listed := by rw [hB1]; simp
    refine ⟨by rw [hB1]; simp, fun j hj => ?_⟩
    rw [hB1] at hj
    simp only [List.mem_cons, List.not_mem_nil, or_false] at hj
    by_cases hji : j = i
    · subst hji
      refine wpOp_mono (fun a' w' h4 => ⟨h4.1, anyR_tree hsel t _ a' w' (inv.set hr) h4.1 hB2 ?_⟩) (step_mv inv hr h.1)
      rw [set_getD inv hr]
      exact h4.2
    · have hjk : j = k := hj.resolve_left hji
      subst hjk
      have := wpOp_mono (fun a' w' (h4 : safeW C s (listed.setIfInBounds j true) w' ∧ walkT P ops C s Q u (listed.getD s false || j == s) a' w') => (⟨h4.1, anyR_tree hsel u _ a' w' (inv.set hr2) h4.1 hB3 (by rw [set_getD inv hr2]; exact h4.2)⟩ : safeW C s (listed.setIfInBounds j true) w' ∧ anyR P md ops C s Q u.len (listed.setIfInBounds j true) a' w')) (step_mv inv hr2 h.2)
      rw [← hlen] at this
      exact this
  | .rd k i t, listed, a, w, inv, hs, hB, h => by
    simp only [ordT, Bool.and_eq_true] at hB
    obtain ⟨hB1, hB2⟩ := hB
    simp only [decide_eq_true_eq, Bool.or_eq_true, beq_iff_eq] at hB1
    obtain ⟨⟨⟨⟨hr, hf⟩, hne⟩, his⟩, hw⟩ := hB1
    have hr' : i ∈ Region.ready md ops listed := by simpa using hr
    obtain ⟨_, o, ho, _⟩ := mem_ready.1 hr'
    have hne' : noEnter o.op = true := by rw [ho] at hne; exact hne
    have hgs : (listed.setIfInBounds i true).getD s false = listed.getD s false := getD_set_ne false his
    have hs2 : safeW C s (listed.setIfInBounds i true) w := by unfold safeW; rw [hgs]; exact hs
    simp only [walkT] at h
    have hread : ∃ v, ReadsIn P ops md C s i o v a ∧ walkT P ops C s Q t (listed.getD s false) (a.put o.dst v) w := by
      by_cases h2 : k = 2
      · rw [if_pos h2] at h
        obtain ⟨v, hy, hK⟩ := yieldsIn_of_qOp ho (qOp_of_list ho h)
        exact ⟨v, .inr hy, hK⟩
      · rw [if_neg h2] at h
        obtain ⟨v, hy, hK⟩ := yieldsIn_of_qOp ho (qOp_of_list ho h)
        exact ⟨v, .inl ⟨hw.resolve_left h2, hy⟩, hK⟩
    obtain ⟨v, hy, hK⟩ := hread
    exact anyR_first ho his hne' (Region.noSelect_spec hsel) t.len listed a w inv (Region.free_spec ho hf) hr' hy hs
      (anyR_tree hsel t _ _ w (inv.set hr') hs2 hB2 (by rw [hgs]; exact hK))

theorem walkT_read {s i : Nat} {Q : Act → World → Prop} {l : RTree} {b : Bool} {a : Act} {w : World} {lo : List Oper} (h : wpQuiet P lo.toArray C (fun a' => walkT P lo.toArray C s Q l b a' w) ((lo.drop i).take 1) a) : walkT P lo.toArray C s Q (.rd 1 i l) b a w := by
  simp only [walkT, pick_one]
  exact h
theorem walkT_any {s i : Nat} {Q : Act → World → Prop} {l : RTree} {b : Bool} {a : Act} {w : World} {lo : List Oper} (h : wpQuiet P lo.toArray (fun _ => True) (fun a' => walkT P lo.toArray C s Q l b a' w) ((lo.drop i).take 1) a) : walkT P lo.toArray C s Q (.rd 2 i l) b a w := by
  simp only [walkT, pick_one]
  exact h
theorem walkT_move {s i : Nat} {Q : Act → World → Prop} {l : RTree} {b : Bool} {a : Act} {w : World} {lo : List Oper}
    (h : wpList P lo.toArray (fun e a' w' => e = .normal ∧ ((b || i == s) = true ∨ C w') ∧ walkT P lo.toArray C s Q l (b || i == s) a' w') ((lo.drop i).take 1) a w) : walkT P lo.toArray C s Q (.mv i l) b a w := by
  simp only [walkT, pick_one]
  exact h
theorem walkT_two {s i j : Nat} {Q : Act → World → Prop} {l m : RTree} {b : Bool} {a : Act} {w : World} {lo : List Oper}
    (h1 : wpList P lo.toArray (fun e a' w' => e = .normal ∧ ((b || i == s) = true ∨ C w') ∧ walkT P lo.toArray C s Q l (b || i == s) a' w') ((lo.drop i).take 1) a w)
    (h2 : wpList P lo.toArray (fun e a' w' => e = .normal ∧ ((b || j == s) = true ∨ C w') ∧ walkT P lo.toArray C s Q m (b || j == s) a' w') ((lo.drop j).take 1) a w) : walkT P lo.toArray C s Q (.two i j l m) b a w := by
  simp only [walkT, pick_one]
  exact ⟨h1, h2⟩

/-- A region that draws its order, walked in an order of one's own that parts where two movers are ready. -/
theorem wp_region_tree {id : Nat} {Q : Exit → Act → World → Prop} {a : Act} {w : World} {l : List Oper} (s : Nat) (ord : RTree) (C : World → Prop) (hm : P.follows .mixedOrders = true)
    (hB : (Region.noSelect l.toArray && decide (ord.len = l.length) && ordT .any l.toArray s ord (Array.replicate l.length false)) = true)
    (hC : C { w with drawn := w.drawn + 1 }) (h : walkT P l.toArray C s (fun a' w' => Q .normal a' w') ord false a { w with drawn := w.drawn + 1 }) : (Code.region id l.toArray true).wp P Q a w := by
  simp only [Bool.and_eq_true, decide_eq_true_eq] at hB
  obtain ⟨⟨hsel, hlen⟩, hord⟩ := hB
  refine wp_region_any hm ?_
  have inv0 : RInv .any l.toArray (Array.replicate l.length false) := ⟨by simp, fun j oj _ hl => (by rw [getD_replicate_false] at hl; cases hl)⟩
  have H := anyR_tree (md := .any) hsel ord _ a _ inv0 (.inr hC) hord (by rw [getD_replicate_false]; exact h)
  have := anyR_any (Q' := Q) (fun a w h => h) _ _ _ _ H
  rw [hlen] at this
  simpa using this
end

end Go.Proofs.YtlomhfknmhaboaaGreatDoor.RT

/- The law functions of layer 13: Make. -/
namespace Go.Proofs.YtlomhfknmhaboaaGreatDoor
open Go.RowKit

/-- Four parts as a value. -/
def partsV (nu : Nat → Int) (de : Nat → Nat) : Array Value := #[.int .i8 (nu 0), .int .u8 (de 0), .int .i8 (nu 1), .int .u8 (de 1), .int .i8 (nu 2), .int .u8 (de 2), .int .i8 (nu 3), .int .u8 (de 3)]
/-- The size that parts describe. -/
def partsQ (nu : Nat → Int) (de : Nat → Nat) (m : Nat) : List Rat := (List.range m).map fun i => fracQ (nu i) (de i)
theorem partsQ_length (nu : Nat → Int) (de : Nat → Nat) (m : Nat) : (partsQ nu de m).length = m := by simp [partsQ]
theorem partsQ_succ (nu : Nat → Int) (de : Nat → Nat) (m : Nat) : partsQ nu de (m + 1) = partsQ nu de m ++ [fracQ (nu m) (de m)] := by simp [partsQ, List.range_succ]

theorem parts_cells {w : World} {g : Nat} {nu : Nat → Int} {de : Nat → Nat} {t : TypeId} (h : w.heap[g]? = some (.cells (partsV nu de) t (0, 0))) (k : Nat) (hk : k < 4) :
    w.cell? ⟨g, k * 2, none⟩ = some (.int .i8 (nu k)) ∧ w.cell? ⟨g, k * 2 + 1, none⟩ = some (.int .u8 (de k)) := by
  have h4 : k = 0 ∨ k = 1 ∨ k = 2 ∨ k = 3 := by omega
  rcases h4 with rfl | rfl | rfl | rfl <;> exact ⟨by rw [cell_of_row w g _ _ t (0, 0) h]; rfl, by rw [cell_of_row w g _ _ t (0, 0) h]; rfl⟩

theorem ownS_own {w : World} {B c : Nat} {a : Option Addr} {l : List Rat} (h : OwnQ w B a c l) : w.ownsRow B 30 2 (.slice a l.length c) l.length (cellsQ l) := by
  have : w.ownsRow B 30 2 (.slice a (l.map qs).length c) (l.map qs).length (cellsS (l.map qs)) := h
  rw [List.length_map] at this
  exact this
theorem own_ownQ {w : World} {B c : Nat} {a : Option Addr} {l : List Rat} (h : w.ownsRow B 30 2 (.slice a l.length c) l.length (cellsQ l)) : OwnQ w B a c l := by
  show w.ownsRow B 30 2 (.slice a (l.map qs).length c) (l.map qs).length (cellsS (l.map qs))
  rw [List.length_map]
  exact h

set_option maxRecDepth 100000 in
set_option maxHeartbeats 8000000 in
theorem make_any (w : World) (a0 : Option Addr) (c0 m : Nat) (hm : m ≤ 4) (nu : Nat → Int) (de : Nat → Nat) (hn : ∀ k, -128 ≤ nu k ∧ nu k ≤ 127) (hd : ∀ k, de k < 256) (L : Laid w) :
    Calls Tryz.prog 15 #[.slice a0 m c0, .agg (partsV nu de)] w fun e w' => ∃ a c, e = .returned (.slice a m c) ∧ OwnQ w' w.heap.size a c (partsQ nu de m) ∧ Below w.heap.size w w' := by
  have HF : Hid (∀ W k, Below w.heap.size w W → Gives Tryz.prog 24 #[.agg #[.int .i8 (nu k), .int .u8 (de k)]] W (fr (fracQ (nu k) (de k)))) := fun W k hW => fraction_any W (nu k) (de k) (hn k) (hd k) (L.below hW)
  unfold fr fv at HF
  have B0 := Lib.hid (((Below.refl w.heap.size w).alloc (Nat.le_refl _) (.cells (partsV nu de) 40)).alloc (by simp) (.cells #[] 30))
  have K0 := Lib.hid (heap_old (heap_at w (partsV nu de) 40 _ rfl) (.cells #[] 30))
  have O0 : Hid (OwnQ ((w.alloc (.cells (partsV nu de) 40)).alloc (.cells #[] 30)) (w.heap.size + 1) (some ⟨w.heap.size + 1, 0, none⟩) 0 (partsQ nu de 0)) := by
    have := own_madeS (w.alloc (.cells (partsV nu de) 40)) [] (by simp)
    rw [World.size_alloc] at this
    exact this
  have Hp0 : Hid (partsV nu de = #[.int .i8 (nu 0), .int .u8 (de 0), .int .i8 (nu 1), .int .u8 (de 1), .int .i8 (nu 2), .int .u8 (de 2), .int .i8 (nu 3), .int .u8 (de 3)]) := Lib.hid rfl
  clear L hn hd
  unfold partsV at *
  go_enter Tryz.func15, Tryz.ntmps15
  go_wp2_with fail
  generalize (w.alloc (.cells #[.int .i8 (nu 0), .int .u8 (de 0), .int .i8 (nu 1), .int .u8 (de 1), .int .i8 (nu 2), .int .u8 (de 2), .int .i8 (nu 3), .int .u8 (de 3)] 40)).alloc (.cells #[] 30) = W0 at *
  go_loopw [5, 6] (fun o i wr => ∃ (k : Nat) (b : Option Addr) (d : Nat), k ≤ m ∧ i = .int .i64 k ∧ o = .slice b k d ∧ Hid (wr.heap[w.heap.size]? = some (.cells #[.int .i8 (nu 0), .int .u8 (de 0), .int .i8 (nu 1), .int .u8 (de 1), .int .i8 (nu 2), .int .u8 (de 2), .int .i8 (nu 3), .int .u8 (de 3)] 40 (0, 0))) ∧ Hid (OwnQ wr (w.heap.size + 1) b d (partsQ nu de k)) ∧ Hid (Below w.heap.size w wr)) (fun _ i _ => m - (intOf i).toNat)
  case atStart => exact ⟨0, _, _, Nat.zero_le _, rfl, rfl, K0, O0, B0⟩
  case round =>
    clear B0 K0 O0
    obtain ⟨k, b, d, hk, rfl, rfl, K, O, B⟩ := hrel
    by_cases hlt : k < m
    · have hlt' : (k : Int) < m := by omega
      have htm : Int.tmod (k : Int) 4 = k := by rw [Int.tmod_eq_emod_of_nonneg (by omega)]; omega
      obtain ⟨x0, x1⟩ := parts_cells (nu := nu) (de := de) K.out k (by omega)
      have hk4 : (0 : Int) ≤ k ∧ (k : Int) < 4 := ⟨by omega, by omega⟩
      have Hf := Lib.hid (HF.out wr k B.out)
      have Hs := Lib.hid (partsQ_succ nu de k)
      generalize fracQ (nu k) (de k) = q at *
      generalize nu k = z at *
      generalize de k = y at *
      go_wp2_with fail
      refine Calls.mono Hf.out ?_
      rintro e w1 ⟨rfl, hb1⟩
      have hsz := (Array.getElem?_eq_some_iff.1 K.out).1
      have B1 := Lib.hid (B.out.trans (hb1.mono B.out.size))
      have K1 := Lib.hid (heap_kept K.out hb1 (Nat.le_refl _))
      have O1 := Lib.hid (O.out.below hb1 (Nat.le_refl _))
      have S1 := Lib.hid (Nat.le_trans hsz hb1.size)
      clear hb1 Hf B K O x0 x1 hsz
      have Ow : Hid (w1.ownsRow (w.heap.size + 1) 30 2 (.slice b k d) k (cellsQ (partsQ nu de k))) := by
        have := ownS_own O1.out
        rw [partsQ_length] at this
        exact this
      go_wp2_with (at_builtin; refine wpList_append_new rfl (.tmp 14) (.tmp 20) 34 rfl elQ _ 1 [.string (itx q.num), .string (dec q.den)] rfl rfl Ow.out S1.out rfl (by simp [Value.oneCell']) (by omega) (by omega) ?_)
      intro v' w3 hown3 hg3 hnil3
      have hlow : ∀ j, j < w.heap.size + 1 → w3.heap[j]? = w1.heap[j]? := fun j hj => by
        have hs1 := S1.out
        have hjl : j < w1.heap.size := by omega
        rw [hg3.block j (by simp; omega) (fun e => by have := (Ow.out.lt j e.symm).1; omega)]
        exact ((Below.refl w1.heap.size w1).alloc (Nat.le_refl _) _).block j hjl
      have K3 : Hid (w3.heap[w.heap.size]? = some (.cells #[.int .i8 (nu 0), .int .u8 (de 0), .int .i8 (nu 1), .int .u8 (de 1), .int .i8 (nu 2), .int .u8 (de 2), .int .i8 (nu 3), .int .u8 (de 3)] 40 (0, 0))) := by
        show _ = _
        rw [hlow _ (by omega)]
        exact K1.out
      have B3 : Hid (Below w.heap.size w w3) := (B1.out.alloc B1.out.size _).grown hg3 (by simp; have := B1.out.size; omega) (fun j hj => by have := (Ow.out.lt j hj).1; omega)
      obtain ⟨b3, d3, rfl⟩ := own_form hown3
      have O3 : Hid (OwnQ w3 (w.heap.size + 1) b3 d3 (partsQ nu de (k + 1))) := by
        refine own_ownQ ?_
        rw [partsQ_length, Hs.out]
        unfold cellsQ
        rw [List.map_append, cellsS_append]
        exact hown3
      clear hown3 hg3 hnil3 hlow B1 K1 O1 S1 Ow
      go_wp2_with fail
      go_roundw
      case rel => exact ⟨k + 1, b3, d3, by omega, by go_num, rfl, K3, O3, B3⟩
      case measure => simp [intOf]; omega
    · have hlt' : ¬ (k : Int) < m := by omega
      have hkm : k = m := by omega
      subst hkm
      go_wp2_with fail
      go_ret
      exact ⟨b, d, rfl, O.out.lower (by omega), B.out⟩

end Go.Proofs.YtlomhfknmhaboaaGreatDoor

/- size.Add, Sub, Scale. -/
namespace Go.Proofs.YtlomhfknmhaboaaGreatDoor
open Go.RowKit

/-- The function returns a size with OK, or no size with an error. -/
def GivesC (f : FuncId) (args : Array Value) (w : World) (code : Int) (l : List Rat) : Prop :=
  Calls Tryz.prog f args w fun e w' => ∃ a c, e = .returned (.tuple #[.slice a (if code = 0 then l.length else 0) c, .int .i64 code]) ∧ (code = 0 → Rd w' a (cellsQ l)) ∧ Below w.heap.size w w'

def sumCode (l : List Rat) : Int := if shortAll l = true then 0 else 4

theorem GivesSum.code {f : FuncId} {args : Array Value} {w : World} {l : List Rat} (h : GivesSum f args w l) : GivesC f args w (sumCode l) l := by
  unfold GivesSum at h
  unfold GivesC sumCode
  by_cases hs : shortAll l = true
  · rw [if_pos hs] at h ⊢
    refine Calls.mono h ?_
    rintro e w' ⟨a, c, rfl, hr, hb⟩
    exact ⟨a, c, rfl, fun _ => hr, hb⟩
  · rw [if_neg hs] at h ⊢
    refine Calls.mono h ?_
    rintro e w' ⟨rfl, hb⟩
    exact ⟨none, 0, rfl, fun h4 => absurd h4 (by decide), hb⟩
theorem GivesErr.code {f : FuncId} {args : Array Value} {w : World} {code : Int} (hc : code ≠ 0) (l : List Rat) (h : GivesErr f args w code) : GivesC f args w code l := by
  unfold GivesC
  rw [if_neg hc]
  refine Calls.mono h ?_
  rintro e w' ⟨rfl, hb⟩
  exact ⟨none, 0, rfl, fun h4 => absurd h4 hc, hb⟩
theorem GivesC.lower {f : FuncId} {args : Array Value} {w : World} {code : Int} {l : List Rat} (h : GivesC f args w code l) : ∃ z : Nat, Calls Tryz.prog f args w fun e w' => ∃ a c, e = .returned (.tuple #[.slice a z c, .int .i64 code]) ∧ (code = 0 → Rd w' a (cellsQ l)) ∧ Below w.heap.size w w' := ⟨_, h⟩


set_option maxRecDepth 100000 in
set_option maxHeartbeats 8000000 in
theorem add_gen (w : World) (ps : List Int) (a0 a1 a2 : Option Addr) (c0 c1 c2 : Nat) (la lb : List Rat) (rp : Rd w a0 (ints ps)) (hi : I64s ps) (hp : pcode ps = 0) (r1 : Rd w a1 (cellsQ la)) (r2 : Rd w a2 (cellsQ lb)) (l1 : la.length = ps.length) (l2 : lb.length = ps.length)
    (s1 : ∀ q ∈ la, Sm 30 q) (s2 : ∀ q ∈ lb, Sm 30 q) (L : Laid w) :
    GivesC 22 #[.slice a0 ps.length c0, .slice a1 la.length c1, .slice a2 lb.length c2] w (sumCode (sumQ ps.length [la, lb] [1, ((1 : Int) : Rat)])) (sumQ ps.length [la, lb] [1, ((1 : Int) : Rat)]) := by
  obtain ⟨u, hu⟩ : ∃ q : Rat, q = 1 := ⟨_, rfl⟩
  obtain ⟨v, hv⟩ : ∃ q : Rat, q = ((1 : Int) : Rat) := ⟨_, rfl⟩
  rw [← hv, ← hu]
  have Hc : Hid (∀ W g1 g2, Below w.heap.size w W → W.heap[g1]? = some (.cells #[.slice a1 la.length c1, .slice a2 lb.length c2] 34 (0, 0)) → W.heap[g2]? = some (.cells #[.string (itx u.num), .string (dec u.den), .string (itx v.num), .string (dec v.den)] 30 (0, 0)) →
      GivesC 16 #[.slice a0 ps.length c0, .slice (some ⟨g1, 0, none⟩) 2 2, .slice (some ⟨g2, 0, none⟩) 2 2] W (sumCode (sumQ ps.length [la, lb] [u, v])) (sumQ ps.length [la, lb] [u, v])) := fun W g1 g2 hW h1 h2 =>
    (combine_fine W a0 _ _ c0 2 2 ps [la, lb] [u, v] (rp.below hW (Nat.le_refl _)) hi hp (rdl_two (l1 := la.map qs) (l2 := lb.map qs) (by rw [List.length_map, List.length_map]; exact h1) (r1.below hW (Nat.le_refl _)) (r2.below hW (Nat.le_refl _))) (by simp)
      (by intro l hl; simp only [List.mem_cons, List.not_mem_nil, or_false] at hl; rcases hl with rfl | rfl; exact ⟨l1, s1⟩; exact ⟨l2, s2⟩) (rd_obj h2) rfl
      (by intro q hq; simp only [List.mem_cons, List.not_mem_nil, or_false] at hq; rcases hq with rfl | rfl; subst hu; exact Sm.le (D := 1) ⟨by decide +kernel, by decide +kernel⟩ (by decide); subst hv; exact Sm.le (D := 2) ⟨by decide +kernel, by decide +kernel⟩ (by decide)) (L.below hW)).code
  have N1 : Hid (∀ W, Below w.heap.size w W → Gives Tryz.prog 65 #[.int .i64 1] W (fr u)) := fun W hW => by subst hu; exact numberR W 1 (by decide) (by decide) (L.below hW)
  have N2 : Hid (∀ W, Below w.heap.size w W → Gives Tryz.prog 65 #[.int .i64 1] W (fr v)) := fun W hW => by subst hv; exact numberR W 1 (by decide) (by decide) (L.below hW)
  unfold fr fv at N1 N2
  unfold GivesC at Hc ⊢
  clear hu hv rp hi hp r1 r2 l1 l2 s1 s2 L
  generalize sumQ ps.length [la, lb] [u, v] = S at *
  generalize sumCode S = code at *
  generalize (if code = 0 then S.length else 0) = z at *
  generalize ps.length = n at *
  generalize la.length = na at *
  generalize lb.length = nb at *
  have B0 := Lib.hid ((Below.refl w.heap.size w).alloc (Nat.le_refl _) (.cells #[.slice a1 na c1, .slice a2 nb c2] 34))
  have K0 := Lib.hid (heap_at w #[.slice a1 na c1, .slice a2 nb c2] 34 _ rfl)
  go_enter Tryz.func22, Tryz.ntmps22
  go_wp2_with fail
  generalize w.alloc (.cells #[.slice a1 na c1, .slice a2 nb c2] 34) = w0 at *
  refine Calls.mono (N1.out _ B0.out) ?_
  rintro e w1 ⟨rfl, hb⟩
  have B1 := Lib.hid (B0.out.trans (hb.mono B0.out.size))
  have K1 := Lib.hid (heap_kept K0.out hb (Nat.le_refl _))
  clear hb B0 K0
  go_wp2_with fail
  refine Calls.mono (N2.out _ B1.out) ?_
  rintro e w2 ⟨rfl, hb⟩
  have B2 := Lib.hid (B1.out.trans (hb.mono B1.out.size))
  have K2 := Lib.hid (heap_kept K1.out hb (Nat.le_refl _))
  clear hb B1 K1 N1 N2
  go_wp2_with fail
  have B3 := Lib.hid (B2.out.alloc B2.out.size (.cells #[.string (itx u.num), .string (dec u.den), .string (itx v.num), .string (dec v.den)] 30))
  have K3 := Lib.hid (heap_old K2.out (.cells #[.string (itx u.num), .string (dec u.den), .string (itx v.num), .string (dec v.den)] 30))
  have M3 := Lib.hid (heap_at w2 #[.string (itx u.num), .string (dec u.den), .string (itx v.num), .string (dec v.den)] 30 _ rfl)
  generalize w2.alloc (.cells #[.string (itx u.num), .string (dec u.den), .string (itx v.num), .string (dec v.den)] 30) = w3 at *
  refine Calls.mono (Hc.out _ _ _ B3.out K3.out M3.out) ?_
  rintro e w4 ⟨a, c, rfl, hr, hb⟩
  have Hr := Lib.hid hr
  have B4 := Lib.hid (B3.out.trans (hb.mono B3.out.size))
  clear hr hb Hc B2 K2 B3 K3 M3
  go_wp2_with fail
  go_ret2
  exact ⟨a, c, rfl, Hr.out, B4.out⟩


set_option maxRecDepth 100000 in
set_option maxHeartbeats 8000000 in
theorem sub_gen (w : World) (ps : List Int) (a0 a1 a2 : Option Addr) (c0 c1 c2 : Nat) (la lb : List Rat) (rp : Rd w a0 (ints ps)) (hi : I64s ps) (hp : pcode ps = 0) (r1 : Rd w a1 (cellsQ la)) (r2 : Rd w a2 (cellsQ lb)) (l1 : la.length = ps.length) (l2 : lb.length = ps.length)
    (s1 : ∀ q ∈ la, Sm 30 q) (s2 : ∀ q ∈ lb, Sm 30 q) (L : Laid w) :
    GivesC 26 #[.slice a0 ps.length c0, .slice a1 la.length c1, .slice a2 lb.length c2] w (sumCode (sumQ ps.length [la, lb] [1, (((-1) : Int) : Rat)])) (sumQ ps.length [la, lb] [1, (((-1) : Int) : Rat)]) := by
  obtain ⟨u, hu⟩ : ∃ q : Rat, q = 1 := ⟨_, rfl⟩
  obtain ⟨v, hv⟩ : ∃ q : Rat, q = (((-1) : Int) : Rat) := ⟨_, rfl⟩
  rw [← hv, ← hu]
  have Hc : Hid (∀ W g1 g2, Below w.heap.size w W → W.heap[g1]? = some (.cells #[.slice a1 la.length c1, .slice a2 lb.length c2] 34 (0, 0)) → W.heap[g2]? = some (.cells #[.string (itx u.num), .string (dec u.den), .string (itx v.num), .string (dec v.den)] 30 (0, 0)) →
      GivesC 16 #[.slice a0 ps.length c0, .slice (some ⟨g1, 0, none⟩) 2 2, .slice (some ⟨g2, 0, none⟩) 2 2] W (sumCode (sumQ ps.length [la, lb] [u, v])) (sumQ ps.length [la, lb] [u, v])) := fun W g1 g2 hW h1 h2 =>
    (combine_fine W a0 _ _ c0 2 2 ps [la, lb] [u, v] (rp.below hW (Nat.le_refl _)) hi hp (rdl_two (l1 := la.map qs) (l2 := lb.map qs) (by rw [List.length_map, List.length_map]; exact h1) (r1.below hW (Nat.le_refl _)) (r2.below hW (Nat.le_refl _))) (by simp)
      (by intro l hl; simp only [List.mem_cons, List.not_mem_nil, or_false] at hl; rcases hl with rfl | rfl; exact ⟨l1, s1⟩; exact ⟨l2, s2⟩) (rd_obj h2) rfl
      (by intro q hq; simp only [List.mem_cons, List.not_mem_nil, or_false] at hq; rcases hq with rfl | rfl; subst hu; exact Sm.le (D := 1) ⟨by decide +kernel, by decide +kernel⟩ (by decide); subst hv; exact Sm.le (D := 2) ⟨by decide +kernel, by decide +kernel⟩ (by decide)) (L.below hW)).code
  have N1 : Hid (∀ W, Below w.heap.size w W → Gives Tryz.prog 65 #[.int .i64 1] W (fr u)) := fun W hW => by subst hu; exact numberR W 1 (by decide) (by decide) (L.below hW)
  have N2 : Hid (∀ W, Below w.heap.size w W → Gives Tryz.prog 65 #[.int .i64 (-1)] W (fr v)) := fun W hW => by subst hv; exact numberR W (-1) (by decide) (by decide) (L.below hW)
  unfold fr fv at N1 N2
  unfold GivesC at Hc ⊢
  clear hu hv rp hi hp r1 r2 l1 l2 s1 s2 L
  generalize sumQ ps.length [la, lb] [u, v] = S at *
  generalize sumCode S = code at *
  generalize (if code = 0 then S.length else 0) = z at *
  generalize ps.length = n at *
  generalize la.length = na at *
  generalize lb.length = nb at *
  have B0 := Lib.hid ((Below.refl w.heap.size w).alloc (Nat.le_refl _) (.cells #[.slice a1 na c1, .slice a2 nb c2] 34))
  have K0 := Lib.hid (heap_at w #[.slice a1 na c1, .slice a2 nb c2] 34 _ rfl)
  go_enter Tryz.func26, Tryz.ntmps26
  go_wp2_with fail
  generalize w.alloc (.cells #[.slice a1 na c1, .slice a2 nb c2] 34) = w0 at *
  refine Calls.mono (N1.out _ B0.out) ?_
  rintro e w1 ⟨rfl, hb⟩
  have B1 := Lib.hid (B0.out.trans (hb.mono B0.out.size))
  have K1 := Lib.hid (heap_kept K0.out hb (Nat.le_refl _))
  clear hb B0 K0
  go_wp2_with fail
  refine Calls.mono (N2.out _ B1.out) ?_
  rintro e w2 ⟨rfl, hb⟩
  have B2 := Lib.hid (B1.out.trans (hb.mono B1.out.size))
  have K2 := Lib.hid (heap_kept K1.out hb (Nat.le_refl _))
  clear hb B1 K1 N1 N2
  go_wp2_with fail
  have B3 := Lib.hid (B2.out.alloc B2.out.size (.cells #[.string (itx u.num), .string (dec u.den), .string (itx v.num), .string (dec v.den)] 30))
  have K3 := Lib.hid (heap_old K2.out (.cells #[.string (itx u.num), .string (dec u.den), .string (itx v.num), .string (dec v.den)] 30))
  have M3 := Lib.hid (heap_at w2 #[.string (itx u.num), .string (dec u.den), .string (itx v.num), .string (dec v.den)] 30 _ rfl)
  generalize w2.alloc (.cells #[.string (itx u.num), .string (dec u.den), .string (itx v.num), .string (dec v.den)] 30) = w3 at *
  refine Calls.mono (Hc.out _ _ _ B3.out K3.out M3.out) ?_
  rintro e w4 ⟨a, c, rfl, hr, hb⟩
  have Hr := Lib.hid hr
  have B4 := Lib.hid (B3.out.trans (hb.mono B3.out.size))
  clear hr hb Hc B2 K2 B3 K3 M3
  go_wp2_with fail
  go_ret2
  exact ⟨a, c, rfl, Hr.out, B4.out⟩


/-- What Scale by a pair of texts returns. -/
noncomputable def scaleCode (n : Nat) (la : List Rat) (s t : ByteArray) : Int := open Classical in if h : IsQ s t then sumCode (sumQ n [la] [h.choose]) else 2
noncomputable def scaleQ (n : Nat) (la : List Rat) (s t : ByteArray) : List Rat := open Classical in if h : IsQ s t then sumQ n [la] [h.choose] else []

theorem isQ_choose {q : Rat} (h : IsQ (itx q.num) (dec q.den)) : h.choose = q := by
  have h1 := h.choose_spec
  exact Rat.ext (itx_inj h1.1.symm) (decB_inj h1.2.1.symm)

set_option maxRecDepth 100000 in
set_option maxHeartbeats 8000000 in
theorem scale_gen (w : World) (ps : List Int) (a0 a1 : Option Addr) (c0 c1 : Nat) (la : List Rat) (s t : ByteArray) (rp : Rd w a0 (ints ps)) (hi : I64s ps) (hp : pcode ps = 0) (r1 : Rd w a1 (cellsQ la)) (l1 : la.length = ps.length)
    (s1 : ∀ q ∈ la, Sm 30 q) (hs : s.size ≤ 1000000) (ht : t.size ≤ 1000000) (L : Laid w) :
    GivesC 23 #[.slice a0 ps.length c0, .slice a1 la.length c1, .agg #[.string s, .string t]] w (scaleCode ps.length la s t) (scaleQ ps.length la s t) := by
  have Hc : Hid (∀ W g1 g2, Below w.heap.size w W → W.heap[g1]? = some (.cells #[.slice a1 la.length c1] 34 (0, 0)) → W.heap[g2]? = some (.cells #[.string s, .string t] 30 (0, 0)) →
      GivesC 16 #[.slice a0 ps.length c0, .slice (some ⟨g1, 0, none⟩) 1 1, .slice (some ⟨g2, 0, none⟩) 1 1] W (scaleCode ps.length la s t) (scaleQ ps.length la s t)) := fun W g1 g2 hW h1 h2 => by
    have rl : RdL W (some ⟨g1, 0, none⟩) ([la].map (List.map qs)) := rdl_one (l1 := la.map qs) (by rw [List.length_map]; exact h1) (r1.below hW (Nat.le_refl _))
    have hall : ∀ l ∈ [la], l.length = ps.length ∧ ∀ q ∈ l, Sm 30 q := by intro l hl; simp only [List.mem_cons, List.not_mem_nil, or_false] at hl; subst hl; exact ⟨l1, s1⟩
    have hn := pcode_pos hp
    unfold scaleCode scaleQ
    by_cases h : IsQ s t
    · rw [dif_pos h, dif_pos h]
      have hsp := h.choose_spec
      generalize h.choose = k at *
      obtain ⟨rfl, rfl, hk⟩ := hsp
      exact (combine_fine W a0 _ _ c0 1 1 ps [la] [k] (rp.below hW (Nat.le_refl _)) hi hp rl (by simp) hall (rd_obj h2) rfl
        (by intro q hq; simp only [List.mem_cons, List.not_mem_nil, or_false] at hq; subst hq; exact hk) (L.below hW)).code
    · rw [dif_neg h, dif_neg h]
      refine (combine_bad W a0 _ _ c0 1 1 ps ([la].map (List.map qs)) [(s, t)] (rp.below hW (Nat.le_refl _)) hi (by omega) rl (by simp) (by
        intro l hl
        simp only [List.map_cons, List.map_nil, List.mem_cons, List.not_mem_nil, or_false] at hl
        subst hl
        exact ⟨by rw [List.length_map]; omega, ssz_ok s1⟩) (lcode_ok hp hall) (rd_obj h2) rfl (by
        intro x hx
        simp only [List.mem_cons, List.not_mem_nil, or_false] at hx
        subst hx
        exact ⟨hs, ht⟩) (by unfold rightAll; simp [h]) (L.below hW)).code (by decide) []
  unfold GivesC at Hc ⊢
  clear rp hi hp r1 l1 s1 hs ht L
  generalize scaleQ ps.length la s t = S at *
  generalize scaleCode ps.length la s t = code at *
  generalize (if code = 0 then S.length else 0) = z at *
  generalize ps.length = n at *
  generalize la.length = na at *
  have B0 := Lib.hid ((Below.refl w.heap.size w).alloc (Nat.le_refl _) (.cells #[.string s, .string t] 30))
  have N0 := Lib.hid (heap_at w #[.string s, .string t] 30 _ rfl)
  go_enter Tryz.func23, Tryz.ntmps23
  obtain ⟨k0, k1, -, -⟩ := two_cells N0.out
  go_wp2_with fail
  have B1 := Lib.hid (B0.out.alloc B0.out.size (.cells #[.slice a1 na c1] 34))
  have B2 := Lib.hid (B1.out.alloc B1.out.size (.cells #[.string s, .string t] 30))
  have z1 : (w.alloc (.cells #[.string s, .string t] 30)).heap.size = w.heap.size + 1 := by show (w.heap.push _).size = _; exact Array.size_push ..
  have z2 : ((w.alloc (.cells #[.string s, .string t] 30)).alloc (.cells #[.slice a1 na c1] 34)).heap.size = w.heap.size + 1 + 1 := by rw [← z1]; show ((w.alloc _).heap.push _).size = _; exact Array.size_push ..
  refine Calls.mono (Hc.out _ _ _ B2.out (heap_old (heap_at _ _ _ _ z1) _) (heap_at _ _ _ _ z2)) ?_
  rintro e w5 ⟨a5, c5, rfl, hr, hb⟩
  have Hr := Lib.hid hr
  have B3 := Lib.hid (B2.out.trans (hb.mono B2.out.size))
  clear hr hb z1 z2 Hc
  go_wp2_with fail
  go_ret2
  exact ⟨a5, c5, rfl, Hr.out, B3.out⟩

end Go.Proofs.YtlomhfknmhaboaaGreatDoor

/- The law functions of layer 13: combine. -/
namespace Go.Proofs.YtlomhfknmhaboaaGreatDoor
open Go.RowKit Go.Proofs.YtlomhfknmhaboaaGreatDoor.RT

/-- The sum of two sizes, each times a factor. -/
def combineQ (la lb : List Rat) (k m : Rat) : List Rat := List.zipWith (fun x y => x * k + y * m) la lb
theorem combineQ_length (la lb : List Rat) (k m : Rat) (h : la.length = lb.length) : (combineQ la lb k m).length = la.length := by simp [combineQ, h]
theorem combineQ_succ (la lb : List Rat) (k m : Rat) (j : Nat) (h1 : j < la.length) (h2 : j < lb.length) :
    combineQ (la.take (j + 1)) (lb.take (j + 1)) k m = combineQ (la.take j) (lb.take j) k m ++ [la[j] * k + lb[j] * m] := by
  unfold combineQ
  rw [List.take_add_one, List.take_add_one, List.getElem?_eq_getElem h1, List.getElem?_eq_getElem h2]
  rw [List.zipWith_append (by simp; omega)]
  rfl
theorem shortAll_append (l : List Rat) (x : Rat) : shortAll (l ++ [x]) = (shortAll l && decide (shortQ x)) := by simp [shortAll]
set_option maxRecDepth 100000 in
set_option maxHeartbeats 32000000 in
theorem law_combine (w : World) (a1 a2 : Option Addr) (c1 c2 : Nat) (la lb : List Rat) (k m : Rat) (r1 : Rd w a1 (cellsQ la)) (r2 : Rd w a2 (cellsQ lb)) (hl : lb.length = la.length) (hn : la.length ≤ 1000)
    (s1 : ∀ q ∈ la, Sm 400 q) (s2 : ∀ q ∈ lb, Sm 400 q) (sk : Sm 400 k) (sm : Sm 400 m) (L : Laid w) :
    Calls Tryz.prog 17 #[.slice a1 la.length c1, .slice a2 la.length c2, fr k, fr m] w fun e w' => ∃ a c, e = .returned (.tuple #[.slice a la.length c, .bool (shortAll (combineQ la lb k m))]) ∧ OwnQ w' w.heap.size a c (combineQ la lb k m) ∧ Below w.heap.size w w' := by
  have HL := Lib.hid L
  have R1 := Lib.hid r1
  have R2 := Lib.hid r2
  have Hl := Lib.hid hl
  have S1 := Lib.hid s1
  have S2 := Lib.hid s2
  have Sk := Lib.hid sk
  have Sm' := Lib.hid sm
  have Hlen : Hid (∀ j, j ≤ la.length → (combineQ (la.take j) (lb.take j) k m).length = j) := fun j hj => by rw [combineQ_length _ _ _ _ (by simp; omega)]; simp; omega
  have Hfull : Hid (combineQ (la.take la.length) (lb.take la.length) k m = combineQ la lb k m) := by show _ = _; rw [List.take_length, ← hl, List.take_length]
  clear L r1 r2 hl s1 s2 sk sm
  obtain ⟨n, hnn⟩ : ∃ n, la.length = n := ⟨_, rfl⟩
  rw [hnn] at hn Hlen Hfull ⊢
  have Hn := Lib.hid hnn
  clear hnn
  have B0 := Lib.hid ((((Below.refl w.heap.size w).alloc (Nat.le_refl _) (.cells #[.string (itx k.num), .string (dec k.den)] 30)).alloc (by simp) (.cells #[.string (itx m.num), .string (dec m.den)] 30)).alloc (by simp; omega) (.cells #[] 30))
  have K0 := Lib.hid (heap_old (heap_old (heap_at w #[.string (itx k.num), .string (dec k.den)] 30 _ rfl) (.cells #[.string (itx m.num), .string (dec m.den)] 30)) (.cells #[] 30))
  have M0 := Lib.hid (heap_old (heap_at (w.alloc (.cells #[.string (itx k.num), .string (dec k.den)] 30)) #[.string (itx m.num), .string (dec m.den)] 30 (w.heap.size + 1) (by simp)) (.cells #[] 30))
  have O0 : Hid (OwnQ (((w.alloc (.cells #[.string (itx k.num), .string (dec k.den)] 30)).alloc (.cells #[.string (itx m.num), .string (dec m.den)] 30)).alloc (.cells #[] 30)) (w.heap.size + 2) (some ⟨w.heap.size + 1 + 1, 0, none⟩) 0 []) := by
    have := own_madeS ((w.alloc (.cells #[.string (itx k.num), .string (dec k.den)] 30)).alloc (.cells #[.string (itx m.num), .string (dec m.den)] 30)) [] (by simp)
    rw [World.size_alloc, World.size_alloc] at this
    exact this
  unfold fr fv
  go_enter Tryz.func17, Tryz.ntmps17
  go_wp2_with fail
  generalize ((w.alloc (.cells #[.string (itx k.num), .string (dec k.den)] 30)).alloc (.cells #[.string (itx m.num), .string (dec m.den)] 30)).alloc (.cells #[] 30) = W0 at *
  go_loopw [10, 11, 12] (fun ou ok i wr => ∃ (j : Nat) (b : Option Addr) (d : Nat), j ≤ n ∧ i = .int .i64 j ∧ ok = .bool (shortAll (combineQ (la.take j) (lb.take j) k m)) ∧ ou = .slice b j d ∧ Hid (wr.heap[w.heap.size]? = some (.cells #[.string (itx k.num), .string (dec k.den)] 30 (0, 0))) ∧ Hid (wr.heap[w.heap.size + 1]? = some (.cells #[.string (itx m.num), .string (dec m.den)] 30 (0, 0))) ∧ Hid (OwnQ wr (w.heap.size + 2) b d (combineQ (la.take j) (lb.take j) k m)) ∧ Hid (Below w.heap.size w wr)) (fun _ _ i _ => n - (intOf i).toNat)
  case atStart => exact ⟨0, _, _, Nat.zero_le _, rfl, rfl, rfl, K0, M0, O0, B0⟩
  case round =>
    clear B0 K0 M0 O0
    obtain ⟨j, b, d, hj, rfl, rfl, rfl, K, M, O, B⟩ := hrel
    by_cases hlt : j < n
    · have hlt' : (j : Int) < n := by omega
      have g1 : j < la.length := by rw [Hn.out]; exact hlt
      have g2 : j < lb.length := by rw [Hl.out, Hn.out]; exact hlt
      obtain ⟨bx, ox, rfl, x0, x1⟩ := rdq_at R1.out B.out (Nat.le_refl _) j g1
      obtain ⟨by', oy, rfl, y0, y1⟩ := rdq_at R2.out B.out (Nat.le_refl _) j g2
      have Hsucc := Lib.hid (combineQ_succ la lb k m j g1 g2)
      have Hlj := Lib.hid (Hlen.out j hj)
      have sx := S1.out _ (List.getElem_mem g1)
      have sy := S2.out _ (List.getElem_mem g2)
      have HM1 : Hid (∀ W, Below wr.heap.size wr W → Gives Tryz.prog 35 #[fr la[j], fr k] W (fr (la[j] * k))) := fun W hW => mulR W _ _ 400 400 sx Sk.out (by decide) (HL.out.below (B.out.trans (hW.mono B.out.size)))
      have HM2 : Hid (∀ W, Below wr.heap.size wr W → Gives Tryz.prog 35 #[fr lb[j], fr m] W (fr (lb[j] * m))) := fun W hW => mulR W _ _ 400 400 sy Sm'.out (by decide) (HL.out.below (B.out.trans (hW.mono B.out.size)))
      have HA : Hid (∀ W, Below wr.heap.size wr W → Gives Tryz.prog 60 #[fr (la[j] * k), fr (lb[j] * m)] W (fr (la[j] * k + lb[j] * m))) := fun W hW => addR W _ _ 800 800 (Sm.mul sx Sk.out) (Sm.mul sy Sm'.out) (by decide) (HL.out.below (B.out.trans (hW.mono B.out.size)))
      have HSh := Lib.hid (fun W => lshort_any W (la[j] * k + lb[j] * m))
      unfold fr fv at HM1 HM2 HA HSh
      clear sx sy
      generalize la[j] * k + lb[j] * m = q at *
      generalize la[j] * k = qa at *
      generalize lb[j] * m = qb at *
      generalize la[j] = xa at *
      generalize lb[j] = xb at *
      generalize combineQ (la.take j) (lb.take j) k m = S at *
      have hnon : Nonempty (BW wr) := ⟨⟨wr, Below.refl _ _⟩⟩
      obtain ⟨k0, k1, -, -⟩ := two_cells K.out
      obtain ⟨m0, m1, -, -⟩ := two_cells M.out
      have q0 := BW.cell x0
      have q1 := BW.cell x1
      have q2 := BW.cell y0
      have q3 := BW.cell y1
      have q4 := BW.cell k0
      have q5 := BW.cell k1
      have q6 := BW.cell m0
      have q7 := BW.cell m1
      have HJ := Lib.hid hlt
      have I : Hid (Below wr.heap.size wr wr.drew) := (Below.refl wr.heap.size wr).drew
      go_wp2_with fail
      clear x0 x1 y0 y1 k0 k1 m0 m1
      refine wp_region_tree 14 (.rd 1 0 (.rd 1 1 (.rd 1 2 (.rd 1 3 (.rd 1 4 (.rd 1 6 (.rd 1 7 (.rd 1 8 (.rd 1 9 (.rd 1 10 (.two 5 13 (.two 11 13 (.two 12 13 (.mv 13 (.mv 14 .nil)) (.mv 12 (.mv 14 .nil))) (.mv 11 (.mv 12 (.mv 14 .nil)))) (.mv 5 (.mv 11 (.mv 12 (.mv 14 .nil))))))))))))))) (fun w' => ∃ p : BW wr, w' = p.w) (by kernel_rfl) (by kernel_rfl) ?_ ?_
      · exact ⟨⟨_, I.out⟩, rfl⟩
      iterate 10 (refine walkT_read ?_; simp only [List.drop_succ_cons, List.drop_zero, List.take_succ_cons, List.take_zero]; go_big_quiet_step (fail); refine wpQuiet_nil ?_)
      clear q0 q1 q2 q3 q4 q5 q6 q7 hnon
      refine walkT_two ?_ ?_
      · simp only [List.drop_succ_cons, List.drop_zero, List.take_succ_cons, List.take_zero]
        go_wp2_with fail
        refine Calls.mono (HM1.out _ I.out) ?_
        rintro e_ w1 ⟨rfl, hb_⟩
        have W_w1 : Hid (Below wr.heap.size wr w1) := (Below.refl wr.heap.size wr).drew.trans hb_
        clear hb_
        go_wp2_with fail
        refine ⟨⟨⟨_, W_w1.out⟩, rfl⟩, ?_⟩
        refine walkT_two ?_ ?_
        · simp only [List.drop_succ_cons, List.drop_zero, List.take_succ_cons, List.take_zero]
          go_wp2_with fail
          refine Calls.mono (HM2.out _ W_w1.out) ?_
          rintro e_ w2 ⟨rfl, hb_⟩
          have W_w2 := Lib.hid (W_w1.out.trans (hb_.mono W_w1.out.size))
          clear hb_
          go_wp2_with fail
          refine ⟨⟨⟨_, W_w2.out⟩, rfl⟩, ?_⟩
          refine walkT_two ?_ ?_
          · simp only [List.drop_succ_cons, List.drop_zero, List.take_succ_cons, List.take_zero]
            go_wp2_with fail
            refine Calls.mono (HA.out _ W_w2.out) ?_
            rintro e_ w3 ⟨rfl, hb_⟩
            have W_w3 := Lib.hid (W_w2.out.trans (hb_.mono W_w2.out.size))
            clear hb_
            go_wp2_with fail
            refine ⟨⟨⟨_, W_w3.out⟩, rfl⟩, ?_⟩
            refine walkT_move ?_
            simp only [List.drop_succ_cons, List.drop_zero, List.take_succ_cons, List.take_zero]
            go_wp2_with fail
            have W_w4 := Lib.hid (W_w3.out.alloc W_w3.out.size (.cells #[.string ⟨#[]⟩, .string ⟨#[]⟩] 30))
            have N_w4 := Lib.hid (heap_at w3 #[.string ⟨#[]⟩, .string ⟨#[]⟩] 30 _ rfl)
            have Hg_w4 : Hid (wr.heap.size ≤ w3.heap.size) := W_w3.out.size
            generalize w3.alloc (.cells #[.string ⟨#[]⟩, .string ⟨#[]⟩] 30) = w4 at *
            refine ⟨⟨⟨_, W_w4.out⟩, rfl⟩, ?_⟩
            refine walkT_move ?_
            simp only [List.drop_succ_cons, List.drop_zero, List.take_succ_cons, List.take_zero]
            obtain ⟨n0, n1, f0, f1⟩ := two_cells N_w4.out
            go_wp2_with fail
            have W9 := Lib.hid ((W_w4.out.setCell (p := ⟨w3.heap.size, 0, none⟩) Hg_w4.out (.string (itx q.num))).setCell (p := ⟨w3.heap.size, 1, none⟩) Hg_w4.out (.string (dec q.den)))
            have N9 := Lib.hid (obj_pair N_w4.out (.string (itx q.num)) (.string (dec q.den)))
            clear n0 n1 f0 f1
            generalize (w4.setCell ⟨w3.heap.size, 0, none⟩ (.string (itx q.num))).setCell ⟨w3.heap.size, 1, none⟩ (.string (dec q.den)) = w9 at *
            generalize w3.heap.size = g9 at *
            simp only [walkT]
            have B9 := Lib.hid (B.out.trans (W9.out.mono B.out.size))
            have K9 := Lib.hid (heap_kept K.out W9.out (Nat.le_refl _))
            have M9 := Lib.hid (heap_kept M.out W9.out (Nat.le_refl _))
            have O9 := Lib.hid (O.out.below W9.out (Nat.le_refl _))
            obtain ⟨n0, n1, -, -⟩ := two_cells N9.out
            by_cases hz : shortAll S = true
            · rw [hz]
              have Hz := Lib.hid hz
              clear hz
              go_wp2_with fail
              refine Calls.mono (HSh.out _) ?_
              rintro e_ w10 ⟨rfl, hb_⟩
              have B10 := Lib.hid (B9.out.trans (hb_.mono B9.out.size))
              have K10 := Lib.hid (heap_kept K9.out hb_ (Nat.le_refl _))
              have M10 := Lib.hid (heap_kept M9.out hb_ (Nat.le_refl _))
              have O10 := Lib.hid (O9.out.below hb_ (Nat.le_refl _))
              have N10 := Lib.hid (heap_kept N9.out hb_ (Nat.le_refl _))
              clear hb_ n0 n1
              obtain ⟨n0, n1, -, -⟩ := two_cells N10.out
              have Ow : Hid (w10.ownsRow (w.heap.size + 2) 30 2 (.slice b j d) j (cellsQ S)) := by
                have := ownS_own O10.out
                rw [Hlj.out] at this
                exact this
              have hsz : w.heap.size + 2 ≤ w10.heap.size := Nat.succ_le_of_lt (Array.getElem?_eq_some_iff.1 M10.out).1
              go_wp2_with (at_builtin; refine wpList_append_new rfl (.tmp 45) (.tmp 47) 34 rfl elQ _ 1 [.string (itx q.num), .string (dec q.den)] rfl rfl Ow.out hsz rfl (by simp [Value.oneCell']) (by omega) (by omega) ?_)
              intro v' w12 hown12 hg12 hnil12
              have hlow : ∀ i, i < w.heap.size + 2 → w12.heap[i]? = w10.heap[i]? := fun i hi => by
                rw [hg12.block i (by simp; omega) (fun e => by have := (Ow.out.lt i e.symm).1; omega)]
                exact ((Below.refl w10.heap.size w10).alloc (Nat.le_refl _) _).block i (by omega)
              have K12 := Lib.hid ((hlow _ (by omega)).trans K10.out)
              have M12 := Lib.hid ((hlow _ (by omega)).trans M10.out)
              have B12 : Hid (Below w.heap.size w w12) := (B10.out.alloc B10.out.size _).grown hg12 (by simp; omega) (fun i hi => by have := (Ow.out.lt i hi).1; omega)
              obtain ⟨b12, d12, rfl⟩ := own_form hown12
              have O12 : Hid (OwnQ w12 (w.heap.size + 2) b12 d12 (S ++ [q])) := by
                refine own_ownQ ?_
                rw [List.length_append, Hlj.out]
                unfold cellsQ
                rw [List.map_append, cellsS_append]
                exact hown12
              clear hown12 hg12 hnil12 hlow Ow hsz
              go_wp2_with fail
              go_roundw
              case rel => exact ⟨j + 1, b12, d12, HJ.out, by go_num, by rw [Hsucc.out, shortAll_append, Hz.out]; rfl, rfl, K12, M12, by rw [Hsucc.out]; exact O12, B12⟩
              case measure => simp [intOf]; omega
            · have Hz : Hid (shortAll S = false) := by show _ = _; simpa using hz
              rw [Hz.out]
              clear hz
              obtain ⟨w10, hw10⟩ : ∃ x : World, x = w9 := ⟨_, rfl⟩
              subst hw10
              have Ow : Hid (w10.ownsRow (w.heap.size + 2) 30 2 (.slice b j d) j (cellsQ S)) := by
                have := ownS_own O9.out
                rw [Hlj.out] at this
                exact this
              have hsz : w.heap.size + 2 ≤ w10.heap.size := Nat.succ_le_of_lt (Array.getElem?_eq_some_iff.1 M9.out).1
              go_wp2_with (at_builtin; refine wpList_append_new rfl (.tmp 45) (.tmp 47) 34 rfl elQ _ 1 [.string (itx q.num), .string (dec q.den)] rfl rfl Ow.out hsz rfl (by simp [Value.oneCell']) (by omega) (by omega) ?_)
              intro v' w12 hown12 hg12 hnil12
              have hlow : ∀ i, i < w.heap.size + 2 → w12.heap[i]? = w10.heap[i]? := fun i hi => by
                rw [hg12.block i (by simp; omega) (fun e => by have := (Ow.out.lt i e.symm).1; omega)]
                exact ((Below.refl w10.heap.size w10).alloc (Nat.le_refl _) _).block i (by omega)
              have K12 := Lib.hid ((hlow _ (by omega)).trans K9.out)
              have M12 := Lib.hid ((hlow _ (by omega)).trans M9.out)
              have B12 : Hid (Below w.heap.size w w12) := (B9.out.alloc B9.out.size _).grown hg12 (by simp; omega) (fun i hi => by have := (Ow.out.lt i hi).1; omega)
              obtain ⟨b12, d12, rfl⟩ := own_form hown12
              have O12 : Hid (OwnQ w12 (w.heap.size + 2) b12 d12 (S ++ [q])) := by
                refine own_ownQ ?_
                rw [List.length_append, Hlj.out]
                unfold cellsQ
                rw [List.map_append, cellsS_append]
                exact hown12
              clear hown12 hg12 hnil12 hlow Ow hsz
              go_wp2_with fail
              go_roundw
              case rel => exact ⟨j + 1, b12, d12, HJ.out, by go_num, by rw [Hsucc.out, shortAll_append, Hz.out]; rfl, rfl, K12, M12, by rw [Hsucc.out]; exact O12, B12⟩
              case measure => simp [intOf]; omega
          · simp only [List.drop_succ_cons, List.drop_zero, List.take_succ_cons, List.take_zero]
            go_wp2_with fail
            have W_w5 := Lib.hid (W_w2.out.alloc W_w2.out.size (.cells #[.string ⟨#[]⟩, .string ⟨#[]⟩] 30))
            have N_w5 := Lib.hid (heap_at w2 #[.string ⟨#[]⟩, .string ⟨#[]⟩] 30 _ rfl)
            have Hg_w5 : Hid (wr.heap.size ≤ w2.heap.size) := W_w2.out.size
            generalize w2.alloc (.cells #[.string ⟨#[]⟩, .string ⟨#[]⟩] 30) = w5 at *
            refine ⟨⟨⟨_, W_w5.out⟩, rfl⟩, ?_⟩
            refine walkT_move ?_
            simp only [List.drop_succ_cons, List.drop_zero, List.take_succ_cons, List.take_zero]
            go_wp2_with fail
            refine Calls.mono (HA.out _ W_w5.out) ?_
            rintro e_ w6 ⟨rfl, hb_⟩
            have W_w6 := Lib.hid (W_w5.out.trans (hb_.mono W_w5.out.size))
            have N_w6 := Lib.hid (heap_kept N_w5.out hb_ (Nat.le_refl _))
            clear hb_
            go_wp2_with fail
            refine ⟨⟨⟨_, W_w6.out⟩, rfl⟩, ?_⟩
            refine walkT_move ?_
            simp only [List.drop_succ_cons, List.drop_zero, List.take_succ_cons, List.take_zero]
            obtain ⟨n0, n1, f0, f1⟩ := two_cells N_w6.out
            go_wp2_with fail
            have W9 := Lib.hid ((W_w6.out.setCell (p := ⟨w2.heap.size, 0, none⟩) Hg_w5.out (.string (itx q.num))).setCell (p := ⟨w2.heap.size, 1, none⟩) Hg_w5.out (.string (dec q.den)))
            have N9 := Lib.hid (obj_pair N_w6.out (.string (itx q.num)) (.string (dec q.den)))
            clear n0 n1 f0 f1
            generalize (w6.setCell ⟨w2.heap.size, 0, none⟩ (.string (itx q.num))).setCell ⟨w2.heap.size, 1, none⟩ (.string (dec q.den)) = w9 at *
            generalize w2.heap.size = g9 at *
            simp only [walkT]
            have B9 := Lib.hid (B.out.trans (W9.out.mono B.out.size))
            have K9 := Lib.hid (heap_kept K.out W9.out (Nat.le_refl _))
            have M9 := Lib.hid (heap_kept M.out W9.out (Nat.le_refl _))
            have O9 := Lib.hid (O.out.below W9.out (Nat.le_refl _))
            obtain ⟨n0, n1, -, -⟩ := two_cells N9.out
            by_cases hz : shortAll S = true
            · rw [hz]
              have Hz := Lib.hid hz
              clear hz
              go_wp2_with fail
              refine Calls.mono (HSh.out _) ?_
              rintro e_ w10 ⟨rfl, hb_⟩
              have B10 := Lib.hid (B9.out.trans (hb_.mono B9.out.size))
              have K10 := Lib.hid (heap_kept K9.out hb_ (Nat.le_refl _))
              have M10 := Lib.hid (heap_kept M9.out hb_ (Nat.le_refl _))
              have O10 := Lib.hid (O9.out.below hb_ (Nat.le_refl _))
              have N10 := Lib.hid (heap_kept N9.out hb_ (Nat.le_refl _))
              clear hb_ n0 n1
              obtain ⟨n0, n1, -, -⟩ := two_cells N10.out
              have Ow : Hid (w10.ownsRow (w.heap.size + 2) 30 2 (.slice b j d) j (cellsQ S)) := by
                have := ownS_own O10.out
                rw [Hlj.out] at this
                exact this
              have hsz : w.heap.size + 2 ≤ w10.heap.size := Nat.succ_le_of_lt (Array.getElem?_eq_some_iff.1 M10.out).1
              go_wp2_with (at_builtin; refine wpList_append_new rfl (.tmp 45) (.tmp 47) 34 rfl elQ _ 1 [.string (itx q.num), .string (dec q.den)] rfl rfl Ow.out hsz rfl (by simp [Value.oneCell']) (by omega) (by omega) ?_)
              intro v' w12 hown12 hg12 hnil12
              have hlow : ∀ i, i < w.heap.size + 2 → w12.heap[i]? = w10.heap[i]? := fun i hi => by
                rw [hg12.block i (by simp; omega) (fun e => by have := (Ow.out.lt i e.symm).1; omega)]
                exact ((Below.refl w10.heap.size w10).alloc (Nat.le_refl _) _).block i (by omega)
              have K12 := Lib.hid ((hlow _ (by omega)).trans K10.out)
              have M12 := Lib.hid ((hlow _ (by omega)).trans M10.out)
              have B12 : Hid (Below w.heap.size w w12) := (B10.out.alloc B10.out.size _).grown hg12 (by simp; omega) (fun i hi => by have := (Ow.out.lt i hi).1; omega)
              obtain ⟨b12, d12, rfl⟩ := own_form hown12
              have O12 : Hid (OwnQ w12 (w.heap.size + 2) b12 d12 (S ++ [q])) := by
                refine own_ownQ ?_
                rw [List.length_append, Hlj.out]
                unfold cellsQ
                rw [List.map_append, cellsS_append]
                exact hown12
              clear hown12 hg12 hnil12 hlow Ow hsz
              go_wp2_with fail
              go_roundw
              case rel => exact ⟨j + 1, b12, d12, HJ.out, by go_num, by rw [Hsucc.out, shortAll_append, Hz.out]; rfl, rfl, K12, M12, by rw [Hsucc.out]; exact O12, B12⟩
              case measure => simp [intOf]; omega
            · have Hz : Hid (shortAll S = false) := by show _ = _; simpa using hz
              rw [Hz.out]
              clear hz
              obtain ⟨w10, hw10⟩ : ∃ x : World, x = w9 := ⟨_, rfl⟩
              subst hw10
              have Ow : Hid (w10.ownsRow (w.heap.size + 2) 30 2 (.slice b j d) j (cellsQ S)) := by
                have := ownS_own O9.out
                rw [Hlj.out] at this
                exact this
              have hsz : w.heap.size + 2 ≤ w10.heap.size := Nat.succ_le_of_lt (Array.getElem?_eq_some_iff.1 M9.out).1
              go_wp2_with (at_builtin; refine wpList_append_new rfl (.tmp 45) (.tmp 47) 34 rfl elQ _ 1 [.string (itx q.num), .string (dec q.den)] rfl rfl Ow.out hsz rfl (by simp [Value.oneCell']) (by omega) (by omega) ?_)
              intro v' w12 hown12 hg12 hnil12
              have hlow : ∀ i, i < w.heap.size + 2 → w12.heap[i]? = w10.heap[i]? := fun i hi => by
                rw [hg12.block i (by simp; omega) (fun e => by have := (Ow.out.lt i e.symm).1; omega)]
                exact ((Below.refl w10.heap.size w10).alloc (Nat.le_refl _) _).block i (by omega)
              have K12 := Lib.hid ((hlow _ (by omega)).trans K9.out)
              have M12 := Lib.hid ((hlow _ (by omega)).trans M9.out)
              have B12 : Hid (Below w.heap.size w w12) := (B9.out.alloc B9.out.size _).grown hg12 (by simp; omega) (fun i hi => by have := (Ow.out.lt i hi).1; omega)
              obtain ⟨b12, d12, rfl⟩ := own_form hown12
              have O12 : Hid (OwnQ w12 (w.heap.size + 2) b12 d12 (S ++ [q])) := by
                refine own_ownQ ?_
                rw [List.length_append, Hlj.out]
                unfold cellsQ
                rw [List.map_append, cellsS_append]
                exact hown12
              clear hown12 hg12 hnil12 hlow Ow hsz
              go_wp2_with fail
              go_roundw
              case rel => exact ⟨j + 1, b12, d12, HJ.out, by go_num, by rw [Hsucc.out, shortAll_append, Hz.out]; rfl, rfl, K12, M12, by rw [Hsucc.out]; exact O12, B12⟩
              case measure => simp [intOf]; omega
        · simp only [List.drop_succ_cons, List.drop_zero, List.take_succ_cons, List.take_zero]
          go_wp2_with fail
          have W_w7 := Lib.hid (W_w1.out.alloc W_w1.out.size (.cells #[.string ⟨#[]⟩, .string ⟨#[]⟩] 30))
          have N_w7 := Lib.hid (heap_at w1 #[.string ⟨#[]⟩, .string ⟨#[]⟩] 30 _ rfl)
          have Hg_w7 : Hid (wr.heap.size ≤ w1.heap.size) := W_w1.out.size
          generalize w1.alloc (.cells #[.string ⟨#[]⟩, .string ⟨#[]⟩] 30) = w7 at *
          refine ⟨⟨⟨_, W_w7.out⟩, rfl⟩, ?_⟩
          refine walkT_move ?_
          simp only [List.drop_succ_cons, List.drop_zero, List.take_succ_cons, List.take_zero]
          go_wp2_with fail
          refine Calls.mono (HM2.out _ W_w7.out) ?_
          rintro e_ w8 ⟨rfl, hb_⟩
          have W_w8 := Lib.hid (W_w7.out.trans (hb_.mono W_w7.out.size))
          have N_w8 := Lib.hid (heap_kept N_w7.out hb_ (Nat.le_refl _))
          clear hb_
          go_wp2_with fail
          refine ⟨⟨⟨_, W_w8.out⟩, rfl⟩, ?_⟩
          refine walkT_move ?_
          simp only [List.drop_succ_cons, List.drop_zero, List.take_succ_cons, List.take_zero]
          go_wp2_with fail
          refine Calls.mono (HA.out _ W_w8.out) ?_
          rintro e_ w9 ⟨rfl, hb_⟩
          have W_w9 := Lib.hid (W_w8.out.trans (hb_.mono W_w8.out.size))
          have N_w9 := Lib.hid (heap_kept N_w8.out hb_ (Nat.le_refl _))
          clear hb_
          go_wp2_with fail
          refine ⟨⟨⟨_, W_w9.out⟩, rfl⟩, ?_⟩
          refine walkT_move ?_
          simp only [List.drop_succ_cons, List.drop_zero, List.take_succ_cons, List.take_zero]
          obtain ⟨n0, n1, f0, f1⟩ := two_cells N_w9.out
          go_wp2_with fail
          have W9 := Lib.hid ((W_w9.out.setCell (p := ⟨w1.heap.size, 0, none⟩) Hg_w7.out (.string (itx q.num))).setCell (p := ⟨w1.heap.size, 1, none⟩) Hg_w7.out (.string (dec q.den)))
          have N9 := Lib.hid (obj_pair N_w9.out (.string (itx q.num)) (.string (dec q.den)))
          clear n0 n1 f0 f1
          generalize (w9.setCell ⟨w1.heap.size, 0, none⟩ (.string (itx q.num))).setCell ⟨w1.heap.size, 1, none⟩ (.string (dec q.den)) = w9 at *
          generalize w1.heap.size = g9 at *
          simp only [walkT]
          have B9 := Lib.hid (B.out.trans (W9.out.mono B.out.size))
          have K9 := Lib.hid (heap_kept K.out W9.out (Nat.le_refl _))
          have M9 := Lib.hid (heap_kept M.out W9.out (Nat.le_refl _))
          have O9 := Lib.hid (O.out.below W9.out (Nat.le_refl _))
          obtain ⟨n0, n1, -, -⟩ := two_cells N9.out
          by_cases hz : shortAll S = true
          · rw [hz]
            have Hz := Lib.hid hz
            clear hz
            go_wp2_with fail
            refine Calls.mono (HSh.out _) ?_
            rintro e_ w10 ⟨rfl, hb_⟩
            have B10 := Lib.hid (B9.out.trans (hb_.mono B9.out.size))
            have K10 := Lib.hid (heap_kept K9.out hb_ (Nat.le_refl _))
            have M10 := Lib.hid (heap_kept M9.out hb_ (Nat.le_refl _))
            have O10 := Lib.hid (O9.out.below hb_ (Nat.le_refl _))
            have N10 := Lib.hid (heap_kept N9.out hb_ (Nat.le_refl _))
            clear hb_ n0 n1
            obtain ⟨n0, n1, -, -⟩ := two_cells N10.out
            have Ow : Hid (w10.ownsRow (w.heap.size + 2) 30 2 (.slice b j d) j (cellsQ S)) := by
              have := ownS_own O10.out
              rw [Hlj.out] at this
              exact this
            have hsz : w.heap.size + 2 ≤ w10.heap.size := Nat.succ_le_of_lt (Array.getElem?_eq_some_iff.1 M10.out).1
            go_wp2_with (at_builtin; refine wpList_append_new rfl (.tmp 45) (.tmp 47) 34 rfl elQ _ 1 [.string (itx q.num), .string (dec q.den)] rfl rfl Ow.out hsz rfl (by simp [Value.oneCell']) (by omega) (by omega) ?_)
            intro v' w12 hown12 hg12 hnil12
            have hlow : ∀ i, i < w.heap.size + 2 → w12.heap[i]? = w10.heap[i]? := fun i hi => by
              rw [hg12.block i (by simp; omega) (fun e => by have := (Ow.out.lt i e.symm).1; omega)]
              exact ((Below.refl w10.heap.size w10).alloc (Nat.le_refl _) _).block i (by omega)
            have K12 := Lib.hid ((hlow _ (by omega)).trans K10.out)
            have M12 := Lib.hid ((hlow _ (by omega)).trans M10.out)
            have B12 : Hid (Below w.heap.size w w12) := (B10.out.alloc B10.out.size _).grown hg12 (by simp; omega) (fun i hi => by have := (Ow.out.lt i hi).1; omega)
            obtain ⟨b12, d12, rfl⟩ := own_form hown12
            have O12 : Hid (OwnQ w12 (w.heap.size + 2) b12 d12 (S ++ [q])) := by
              refine own_ownQ ?_
              rw [List.length_append, Hlj.out]
              unfold cellsQ
              rw [List.map_append, cellsS_append]
              exact hown12
            clear hown12 hg12 hnil12 hlow Ow hsz
            go_wp2_with fail
            go_roundw
            case rel => exact ⟨j + 1, b12, d12, HJ.out, by go_num, by rw [Hsucc.out, shortAll_append, Hz.out]; rfl, rfl, K12, M12, by rw [Hsucc.out]; exact O12, B12⟩
            case measure => simp [intOf]; omega
          · have Hz : Hid (shortAll S = false) := by show _ = _; simpa using hz
            rw [Hz.out]
            clear hz
            obtain ⟨w10, hw10⟩ : ∃ x : World, x = w9 := ⟨_, rfl⟩
            subst hw10
            have Ow : Hid (w10.ownsRow (w.heap.size + 2) 30 2 (.slice b j d) j (cellsQ S)) := by
              have := ownS_own O9.out
              rw [Hlj.out] at this
              exact this
            have hsz : w.heap.size + 2 ≤ w10.heap.size := Nat.succ_le_of_lt (Array.getElem?_eq_some_iff.1 M9.out).1
            go_wp2_with (at_builtin; refine wpList_append_new rfl (.tmp 45) (.tmp 47) 34 rfl elQ _ 1 [.string (itx q.num), .string (dec q.den)] rfl rfl Ow.out hsz rfl (by simp [Value.oneCell']) (by omega) (by omega) ?_)
            intro v' w12 hown12 hg12 hnil12
            have hlow : ∀ i, i < w.heap.size + 2 → w12.heap[i]? = w10.heap[i]? := fun i hi => by
              rw [hg12.block i (by simp; omega) (fun e => by have := (Ow.out.lt i e.symm).1; omega)]
              exact ((Below.refl w10.heap.size w10).alloc (Nat.le_refl _) _).block i (by omega)
            have K12 := Lib.hid ((hlow _ (by omega)).trans K9.out)
            have M12 := Lib.hid ((hlow _ (by omega)).trans M9.out)
            have B12 : Hid (Below w.heap.size w w12) := (B9.out.alloc B9.out.size _).grown hg12 (by simp; omega) (fun i hi => by have := (Ow.out.lt i hi).1; omega)
            obtain ⟨b12, d12, rfl⟩ := own_form hown12
            have O12 : Hid (OwnQ w12 (w.heap.size + 2) b12 d12 (S ++ [q])) := by
              refine own_ownQ ?_
              rw [List.length_append, Hlj.out]
              unfold cellsQ
              rw [List.map_append, cellsS_append]
              exact hown12
            clear hown12 hg12 hnil12 hlow Ow hsz
            go_wp2_with fail
            go_roundw
            case rel => exact ⟨j + 1, b12, d12, HJ.out, by go_num, by rw [Hsucc.out, shortAll_append, Hz.out]; rfl, rfl, K12, M12, by rw [Hsucc.out]; exact O12, B12⟩
            case measure => simp [intOf]; omega
      · simp only [List.drop_succ_cons, List.drop_zero, List.take_succ_cons, List.take_zero]
        go_wp2_with fail
        have W_w10 : Hid (Below wr.heap.size wr (wr.alloc (.cells #[.string ⟨#[]⟩, .string ⟨#[]⟩] 30)).drew) := ((Below.refl wr.heap.size wr).alloc (Nat.le_refl _) (.cells #[.string ⟨#[]⟩, .string ⟨#[]⟩] 30)).drew
        have N_w10 : Hid ((wr.alloc (.cells #[.string ⟨#[]⟩, .string ⟨#[]⟩] 30)).drew.heap[wr.heap.size]? = some (.cells #[.string ⟨#[]⟩, .string ⟨#[]⟩] 30 (0, 0))) := heap_at wr #[.string ⟨#[]⟩, .string ⟨#[]⟩] 30 _ rfl
        have Hg_w10 : Hid (wr.heap.size ≤ wr.heap.size) := Nat.le_refl _
        generalize (wr.alloc (.cells #[.string ⟨#[]⟩, .string ⟨#[]⟩] 30)).drew = w10 at *
        refine ⟨⟨⟨_, W_w10.out⟩, rfl⟩, ?_⟩
        refine walkT_move ?_
        simp only [List.drop_succ_cons, List.drop_zero, List.take_succ_cons, List.take_zero]
        go_wp2_with fail
        refine Calls.mono (HM1.out _ W_w10.out) ?_
        rintro e_ w11 ⟨rfl, hb_⟩
        have W_w11 := Lib.hid (W_w10.out.trans (hb_.mono W_w10.out.size))
        have N_w11 := Lib.hid (heap_kept N_w10.out hb_ (Nat.le_refl _))
        clear hb_
        go_wp2_with fail
        refine ⟨⟨⟨_, W_w11.out⟩, rfl⟩, ?_⟩
        refine walkT_move ?_
        simp only [List.drop_succ_cons, List.drop_zero, List.take_succ_cons, List.take_zero]
        go_wp2_with fail
        refine Calls.mono (HM2.out _ W_w11.out) ?_
        rintro e_ w12 ⟨rfl, hb_⟩
        have W_w12 := Lib.hid (W_w11.out.trans (hb_.mono W_w11.out.size))
        have N_w12 := Lib.hid (heap_kept N_w11.out hb_ (Nat.le_refl _))
        clear hb_
        go_wp2_with fail
        refine ⟨⟨⟨_, W_w12.out⟩, rfl⟩, ?_⟩
        refine walkT_move ?_
        simp only [List.drop_succ_cons, List.drop_zero, List.take_succ_cons, List.take_zero]
        go_wp2_with fail
        refine Calls.mono (HA.out _ W_w12.out) ?_
        rintro e_ w13 ⟨rfl, hb_⟩
        have W_w13 := Lib.hid (W_w12.out.trans (hb_.mono W_w12.out.size))
        have N_w13 := Lib.hid (heap_kept N_w12.out hb_ (Nat.le_refl _))
        clear hb_
        go_wp2_with fail
        refine ⟨⟨⟨_, W_w13.out⟩, rfl⟩, ?_⟩
        refine walkT_move ?_
        simp only [List.drop_succ_cons, List.drop_zero, List.take_succ_cons, List.take_zero]
        obtain ⟨n0, n1, f0, f1⟩ := two_cells N_w13.out
        go_wp2_with fail
        have W9 := Lib.hid ((W_w13.out.setCell (p := ⟨wr.heap.size, 0, none⟩) Hg_w10.out (.string (itx q.num))).setCell (p := ⟨wr.heap.size, 1, none⟩) Hg_w10.out (.string (dec q.den)))
        have N9 := Lib.hid (obj_pair N_w13.out (.string (itx q.num)) (.string (dec q.den)))
        clear n0 n1 f0 f1
        generalize (w13.setCell ⟨wr.heap.size, 0, none⟩ (.string (itx q.num))).setCell ⟨wr.heap.size, 1, none⟩ (.string (dec q.den)) = w9 at *
        obtain ⟨g9, hg9⟩ : ∃ g, g = wr.heap.size := ⟨_, rfl⟩
        rw [← hg9] at N9 ⊢
        clear hg9
        simp only [walkT]
        have B9 := Lib.hid (B.out.trans (W9.out.mono B.out.size))
        have K9 := Lib.hid (heap_kept K.out W9.out (Nat.le_refl _))
        have M9 := Lib.hid (heap_kept M.out W9.out (Nat.le_refl _))
        have O9 := Lib.hid (O.out.below W9.out (Nat.le_refl _))
        obtain ⟨n0, n1, -, -⟩ := two_cells N9.out
        by_cases hz : shortAll S = true
        · rw [hz]
          have Hz := Lib.hid hz
          clear hz
          go_wp2_with fail
          refine Calls.mono (HSh.out _) ?_
          rintro e_ w10 ⟨rfl, hb_⟩
          have B10 := Lib.hid (B9.out.trans (hb_.mono B9.out.size))
          have K10 := Lib.hid (heap_kept K9.out hb_ (Nat.le_refl _))
          have M10 := Lib.hid (heap_kept M9.out hb_ (Nat.le_refl _))
          have O10 := Lib.hid (O9.out.below hb_ (Nat.le_refl _))
          have N10 := Lib.hid (heap_kept N9.out hb_ (Nat.le_refl _))
          clear hb_ n0 n1
          obtain ⟨n0, n1, -, -⟩ := two_cells N10.out
          have Ow : Hid (w10.ownsRow (w.heap.size + 2) 30 2 (.slice b j d) j (cellsQ S)) := by
            have := ownS_own O10.out
            rw [Hlj.out] at this
            exact this
          have hsz : w.heap.size + 2 ≤ w10.heap.size := Nat.succ_le_of_lt (Array.getElem?_eq_some_iff.1 M10.out).1
          go_wp2_with (at_builtin; refine wpList_append_new rfl (.tmp 45) (.tmp 47) 34 rfl elQ _ 1 [.string (itx q.num), .string (dec q.den)] rfl rfl Ow.out hsz rfl (by simp [Value.oneCell']) (by omega) (by omega) ?_)
          intro v' w12 hown12 hg12 hnil12
          have hlow : ∀ i, i < w.heap.size + 2 → w12.heap[i]? = w10.heap[i]? := fun i hi => by
            rw [hg12.block i (by simp; omega) (fun e => by have := (Ow.out.lt i e.symm).1; omega)]
            exact ((Below.refl w10.heap.size w10).alloc (Nat.le_refl _) _).block i (by omega)
          have K12 := Lib.hid ((hlow _ (by omega)).trans K10.out)
          have M12 := Lib.hid ((hlow _ (by omega)).trans M10.out)
          have B12 : Hid (Below w.heap.size w w12) := (B10.out.alloc B10.out.size _).grown hg12 (by simp; omega) (fun i hi => by have := (Ow.out.lt i hi).1; omega)
          obtain ⟨b12, d12, rfl⟩ := own_form hown12
          have O12 : Hid (OwnQ w12 (w.heap.size + 2) b12 d12 (S ++ [q])) := by
            refine own_ownQ ?_
            rw [List.length_append, Hlj.out]
            unfold cellsQ
            rw [List.map_append, cellsS_append]
            exact hown12
          clear hown12 hg12 hnil12 hlow Ow hsz
          go_wp2_with fail
          go_roundw
          case rel => exact ⟨j + 1, b12, d12, HJ.out, by go_num, by rw [Hsucc.out, shortAll_append, Hz.out]; rfl, rfl, K12, M12, by rw [Hsucc.out]; exact O12, B12⟩
          case measure => simp [intOf]; omega
        · have Hz : Hid (shortAll S = false) := by show _ = _; simpa using hz
          rw [Hz.out]
          clear hz
          obtain ⟨w10, hw10⟩ : ∃ x : World, x = w9 := ⟨_, rfl⟩
          subst hw10
          have Ow : Hid (w10.ownsRow (w.heap.size + 2) 30 2 (.slice b j d) j (cellsQ S)) := by
            have := ownS_own O9.out
            rw [Hlj.out] at this
            exact this
          have hsz : w.heap.size + 2 ≤ w10.heap.size := Nat.succ_le_of_lt (Array.getElem?_eq_some_iff.1 M9.out).1
          go_wp2_with (at_builtin; refine wpList_append_new rfl (.tmp 45) (.tmp 47) 34 rfl elQ _ 1 [.string (itx q.num), .string (dec q.den)] rfl rfl Ow.out hsz rfl (by simp [Value.oneCell']) (by omega) (by omega) ?_)
          intro v' w12 hown12 hg12 hnil12
          have hlow : ∀ i, i < w.heap.size + 2 → w12.heap[i]? = w10.heap[i]? := fun i hi => by
            rw [hg12.block i (by simp; omega) (fun e => by have := (Ow.out.lt i e.symm).1; omega)]
            exact ((Below.refl w10.heap.size w10).alloc (Nat.le_refl _) _).block i (by omega)
          have K12 := Lib.hid ((hlow _ (by omega)).trans K9.out)
          have M12 := Lib.hid ((hlow _ (by omega)).trans M9.out)
          have B12 : Hid (Below w.heap.size w w12) := (B9.out.alloc B9.out.size _).grown hg12 (by simp; omega) (fun i hi => by have := (Ow.out.lt i hi).1; omega)
          obtain ⟨b12, d12, rfl⟩ := own_form hown12
          have O12 : Hid (OwnQ w12 (w.heap.size + 2) b12 d12 (S ++ [q])) := by
            refine own_ownQ ?_
            rw [List.length_append, Hlj.out]
            unfold cellsQ
            rw [List.map_append, cellsS_append]
            exact hown12
          clear hown12 hg12 hnil12 hlow Ow hsz
          go_wp2_with fail
          go_roundw
          case rel => exact ⟨j + 1, b12, d12, HJ.out, by go_num, by rw [Hsucc.out, shortAll_append, Hz.out]; rfl, rfl, K12, M12, by rw [Hsucc.out]; exact O12, B12⟩
          case measure => simp [intOf]; omega
    · have hlt' : ¬ (j : Int) < n := by omega
      have hjn : j = n := by omega
      subst hjn
      rw [Hfull.out] at O ⊢
      go_wp2_with fail
      go_ret2
      exact ⟨b, d, rfl, O.out.lower (by omega), B.out⟩
end Go.Proofs.YtlomhfknmhaboaaGreatDoor

/- Sums of small sizes: plain laws. -/
namespace Go.Proofs.YtlomhfknmhaboaaGreatDoor
open Go.RowKit

theorem sumQ_two (n : Nat) (la lb : List Rat) (f g : Rat) (h1 : la.length = n) (h2 : lb.length = n) : sumQ n [la, lb] [f, g] = combineQ la lb f g := by
  show addTo (addTo (List.replicate n 0) la f) lb g = _
  refine List.ext_getElem (by simp [addTo, combineQ, h1, h2]) fun i hi1 hi2 => ?_
  simp only [addTo, combineQ, List.getElem_zipWith, List.getElem_replicate, Rat.zero_add]

theorem sumQ_onek (n : Nat) (la : List Rat) (f : Rat) (h1 : la.length = n) : sumQ n [la] [f] = combineQ la la f 0 := by
  show addTo (List.replicate n 0) la f = _
  refine List.ext_getElem (by simp [addTo, combineQ, h1]) fun i hi1 hi2 => ?_
  simp only [addTo, combineQ, List.getElem_zipWith, List.getElem_replicate, Rat.zero_add, Rat.mul_zero, Rat.add_zero]

theorem fracQ_sm (n : Int) (d : Nat) : Sm 2 (fracQ n d) := by
  have t1 := Int.tmod_lt_of_pos n (show (0 : Int) < 41 by decide)
  have t2 := Int.lt_tmod_of_pos n (show (0 : Int) < 41 by decide)
  have hd := densL_ok (d % 6)
  exact Sm.mk' (by omega) (by show _ < 100; omega) (by show _ < 100; omega)

theorem partsQ_sm (nu : Nat → Int) (de : Nat → Nat) (m : Nat) : ∀ q ∈ partsQ nu de m, Sm 2 q := by
  intro q hq
  obtain ⟨i, _, rfl⟩ := List.mem_map.1 hq
  exact fracQ_sm _ _

theorem combineQ_sm {la lb : List Rat} {f g : Rat} {D E F G : Nat} (h1 : ∀ q ∈ la, Sm D q) (h2 : ∀ q ∈ lb, Sm E q) (hf : Sm F f) (hg : Sm G g) : ∀ q ∈ combineQ la lb f g, Sm ((D + F) + (E + G) + 1) q := by
  intro q hq
  obtain ⟨i, hi, rfl⟩ := List.mem_iff_getElem.1 hq
  simp only [combineQ, List.getElem_zipWith]
  have hi' : i < la.length ∧ i < lb.length := by simp [combineQ] at hi; omega
  exact Sm.add (Sm.mul (h1 _ (List.getElem_mem hi'.1)) hf) (Sm.mul (h2 _ (List.getElem_mem hi'.2)) hg)

theorem shortAll_sm {l : List Rat} {D : Nat} (h : ∀ q ∈ l, Sm D q) (hD : D ≤ 30) : shortAll l = true := by
  unfold shortAll
  rw [List.all_eq_true]
  intro q hq
  exact decide_eq_true ((h q hq).le hD)

theorem sm_one : Sm 1 (1 : Rat) := ⟨by decide +kernel, by decide +kernel⟩
theorem sm_mone : Sm 1 (((-1 : Int) : Rat)) := ⟨by decide +kernel, by decide +kernel⟩

theorem sumCode_small (la lb : List Rat) (g : Rat) (h1 : ∀ q ∈ la, Sm 2 q) (h2 : ∀ q ∈ lb, Sm 2 q) (hg : Sm 1 g) : sumCode (combineQ la lb 1 g) = 0 := by
  unfold sumCode
  rw [if_pos (shortAll_sm (combineQ_sm h1 h2 sm_one hg) (by decide))]

end Go.Proofs.YtlomhfknmhaboaaGreatDoor

/- The law SizeAdds: what its function returns. -/
namespace Go.Proofs.YtlomhfknmhaboaaGreatDoor
open Go.RowKit Go.Proofs.YtlomhfknmhaboaaGreatDoor.RX

/-- A pair of sizes as a value. -/
def pairV (pn : Nat) (nA : Nat → Int) (dA : Nat → Nat) (nB : Nat → Int) (dB : Nat → Nat) : Array Value := #[.int .u8 pn, .int .i8 (nA 0), .int .u8 (dA 0), .int .i8 (nA 1), .int .u8 (dA 1), .int .i8 (nA 2), .int .u8 (dA 2), .int .i8 (nA 3), .int .u8 (dA 3), .int .i8 (nB 0), .int .u8 (dB 0), .int .i8 (nB 1), .int .u8 (dB 1), .int .i8 (nB 2), .int .u8 (dB 2), .int .i8 (nB 3), .int .u8 (dB 3)]

set_option maxRecDepth 100000 in
set_option maxHeartbeats 8000000 in
theorem lawAdds_long (w : World) (pn : Nat) (nA : Nat → Int) (dA : Nat → Nat) (nB : Nat → Int) (dB : Nat → Nat) (s t : ByteArray) (h : 45 < s.size ∨ 45 < t.size) (L : Laid w) :
    Gives Tryz.prog 5 #[.agg (pairV pn nA dA nB dB), .agg #[.string s, .string t]] w (.bool true) := by
  unfold Gives
  have Hk : Hid (∀ W, Below w.heap.size w W → Gives Tryz.prog 12 #[] W (.bool true)) := fun W hW => known_ok W (L.below hW)
  clear L
  unfold pairV
  have B0 := Lib.hid (((Below.refl w.heap.size w).alloc (Nat.le_refl _) (.cells #[.int .u8 pn, .int .i8 (nA 0), .int .u8 (dA 0), .int .i8 (nA 1), .int .u8 (dA 1), .int .i8 (nA 2), .int .u8 (dA 2), .int .i8 (nA 3), .int .u8 (dA 3), .int .i8 (nB 0), .int .u8 (dB 0), .int .i8 (nB 1), .int .u8 (dB 1), .int .i8 (nB 2), .int .u8 (dB 2), .int .i8 (nB 3), .int .u8 (dB 3)] 50)).alloc (by simp) (.cells #[.string s, .string t] 30))
  have K0 := Lib.hid (heap_at (w.alloc (.cells #[.int .u8 pn, .int .i8 (nA 0), .int .u8 (dA 0), .int .i8 (nA 1), .int .u8 (dA 1), .int .i8 (nA 2), .int .u8 (dA 2), .int .i8 (nA 3), .int .u8 (dA 3), .int .i8 (nB 0), .int .u8 (dB 0), .int .i8 (nB 1), .int .u8 (dB 1), .int .i8 (nB 2), .int .u8 (dB 2), .int .i8 (nB 3), .int .u8 (dB 3)] 50)) #[.string s, .string t] 30 (w.heap.size + 1) (by simp))
  by_cases h1 : (45 : Int) < s.size
  · clear h
    obtain ⟨k0, k1, -, -⟩ := two_cells K0.out
    go_enter Tryz.func5, Tryz.ntmps5
    go_wp2_with fail
    generalize (w.alloc (.cells #[.int .u8 pn, .int .i8 (nA 0), .int .u8 (dA 0), .int .i8 (nA 1), .int .u8 (dA 1), .int .i8 (nA 2), .int .u8 (dA 2), .int .i8 (nA 3), .int .u8 (dA 3), .int .i8 (nB 0), .int .u8 (dB 0), .int .i8 (nB 1), .int .u8 (dB 1), .int .i8 (nB 2), .int .u8 (dB 2), .int .i8 (nB 3), .int .u8 (dB 3)] 50)).alloc (.cells #[.string s, .string t] 30) = w0 at *
    clear k0 k1
    refine Calls.mono (Hk.out _ B0.out) ?_
    rintro e w1 ⟨rfl, hb1⟩
    have B1 := Lib.hid (B0.out.trans (hb1.mono B0.out.size))
    have K1 := Lib.hid (heap_kept K0.out hb1 (Nat.le_refl _))
    clear hb1 B0 K0
    obtain ⟨k0, k1, -, -⟩ := two_cells K1.out
    go_wp2_with fail
    refine Calls.mono (Hk.out _ B1.out) ?_
    rintro e w2 ⟨rfl, hb2⟩
    have B2 := Lib.hid (B1.out.trans (hb2.mono B1.out.size))
    clear hb2 B1 Hk
    go_wp2_with fail
    go_ret
    exact ⟨rfl, B2.out⟩
  · have h2 : (45 : Int) < t.size := by omega
    clear h
    obtain ⟨k0, k1, -, -⟩ := two_cells K0.out
    go_enter Tryz.func5, Tryz.ntmps5
    go_wp2_with fail
    generalize (w.alloc (.cells #[.int .u8 pn, .int .i8 (nA 0), .int .u8 (dA 0), .int .i8 (nA 1), .int .u8 (dA 1), .int .i8 (nA 2), .int .u8 (dA 2), .int .i8 (nA 3), .int .u8 (dA 3), .int .i8 (nB 0), .int .u8 (dB 0), .int .i8 (nB 1), .int .u8 (dB 1), .int .i8 (nB 2), .int .u8 (dB 2), .int .i8 (nB 3), .int .u8 (dB 3)] 50)).alloc (.cells #[.string s, .string t] 30) = w0 at *
    clear k0 k1
    refine Calls.mono (Hk.out _ B0.out) ?_
    rintro e w1 ⟨rfl, hb1⟩
    have B1 := Lib.hid (B0.out.trans (hb1.mono B0.out.size))
    have K1 := Lib.hid (heap_kept K0.out hb1 (Nat.le_refl _))
    clear hb1 B0 K0
    obtain ⟨k0, k1, -, -⟩ := two_cells K1.out
    go_wp2_with fail
    refine Calls.mono (Hk.out _ B1.out) ?_
    rintro e w2 ⟨rfl, hb2⟩
    have B2 := Lib.hid (B1.out.trans (hb2.mono B1.out.size))
    clear hb2 B1 Hk
    go_wp2_with fail
    go_ret
    exact ⟨rfl, B2.out⟩
/-- What the calls of the law find. -/
structure AddFacts (w : World) (ps : List Int) (la lb : List Rat) (s t : ByteArray) : Prop where
  hi : I64s ps
  hp : pcode ps = 0
  l1 : la.length = ps.length
  l2 : lb.length = ps.length
  s1 : ∀ q ∈ la, Sm 2 q
  s2 : ∀ q ∈ lb, Sm 2 q
  hs : s.size ≤ 45
  ht : t.size ≤ 45
  L : Laid w

theorem AddFacts.add {w W : World} {ps : List Int} {la lb : List Rat} {s t : ByteArray} (H : AddFacts w ps la lb s t) (hW : Below w.heap.size w W) {a0 a1 a2 : Option Addr} (c0 c1 c2 : Nat) (rp : Rd W a0 (ints ps)) (r1 : Rd W a1 (cellsQ la)) (r2 : Rd W a2 (cellsQ lb)) :
    Calls Tryz.prog 22 #[.slice a0 ps.length c0, .slice a1 ps.length c1, .slice a2 ps.length c2] W fun e w' => ∃ a c, e = .returned (.tuple #[.slice a ps.length c, .int .i64 0]) ∧ Rd w' a (cellsQ (combineQ la lb 1 1)) ∧ Below W.heap.size W w' := by
  have h := add_gen W ps a0 a1 a2 c0 c1 c2 la lb rp H.hi H.hp r1 r2 H.l1 H.l2 (fun q hq => (H.s1 q hq).le (by decide)) (fun q hq => (H.s2 q hq).le (by decide)) (H.L.below hW)
  rw [show (((1 : Int) : Rat)) = 1 from rfl, sumQ_two _ _ _ _ _ H.l1 H.l2, sumCode_small la lb 1 H.s1 H.s2 sm_one, H.l1, H.l2] at h
  unfold GivesC at h
  rw [if_pos rfl, combineQ_length _ _ _ _ (H.l1.trans H.l2.symm), H.l1] at h
  refine Calls.mono h ?_
  rintro e w' ⟨a, c, rfl, hr, hb⟩
  exact ⟨a, c, rfl, hr rfl, hb⟩
theorem AddFacts.sub {w W : World} {ps : List Int} {la lb : List Rat} {s t : ByteArray} (H : AddFacts w ps la lb s t) (hW : Below w.heap.size w W) {a0 a1 a2 : Option Addr} (c0 c1 c2 : Nat) (rp : Rd W a0 (ints ps)) (r1 : Rd W a1 (cellsQ la)) (r2 : Rd W a2 (cellsQ lb)) :
    Calls Tryz.prog 26 #[.slice a0 ps.length c0, .slice a1 ps.length c1, .slice a2 ps.length c2] W fun e w' => ∃ a c, e = .returned (.tuple #[.slice a ps.length c, .int .i64 0]) ∧ Rd w' a (cellsQ (combineQ la lb 1 ((-1 : Int) : Rat))) ∧ Below W.heap.size W w' := by
  have h := sub_gen W ps a0 a1 a2 c0 c1 c2 la lb rp H.hi H.hp r1 r2 H.l1 H.l2 (fun q hq => (H.s1 q hq).le (by decide)) (fun q hq => (H.s2 q hq).le (by decide)) (H.L.below hW)
  rw [sumQ_two _ _ _ _ _ H.l1 H.l2, sumCode_small la lb _ H.s1 H.s2 sm_mone, H.l1, H.l2] at h
  unfold GivesC at h
  rw [if_pos rfl, combineQ_length _ _ _ _ (H.l1.trans H.l2.symm), H.l1] at h
  refine Calls.mono h ?_
  rintro e w' ⟨a, c, rfl, hr, hb⟩
  exact ⟨a, c, rfl, hr rfl, hb⟩
theorem AddFacts.comb {w W : World} {ps : List Int} {la lb : List Rat} {s t : ByteArray} (H : AddFacts w ps la lb s t) (hW : Below w.heap.size w W) {a1 a2 : Option Addr} (c1 c2 : Nat) (f g : Rat) (hf : Sm 400 f) (hg : Sm 400 g) {lx ly : List Rat} (hx : lx.length = ps.length) (hy : ly.length = ps.length) (sx : ∀ q ∈ lx, Sm 2 q) (sy : ∀ q ∈ ly, Sm 2 q) (r1 : Rd W a1 (cellsQ lx)) (r2 : Rd W a2 (cellsQ ly)) :
    Calls Tryz.prog 17 #[.slice a1 ps.length c1, .slice a2 ps.length c2, .agg #[.string (itx f.num), .string (dec f.den)], .agg #[.string (itx g.num), .string (dec g.den)]] W fun e w' => ∃ a c, e = .returned (.tuple #[.slice a ps.length c, .bool (shortAll (combineQ lx ly f g))]) ∧ Rd w' a (cellsQ (combineQ lx ly f g)) ∧ Below W.heap.size W w' := by
  have hn := pcode_pos H.hp
  have h := law_combine W a1 a2 c1 c2 lx ly f g r1 r2 (hy.trans hx.symm) (by omega) (fun q hq => (sx q hq).le (by decide)) (fun q hq => (sy q hq).le (by decide)) hf hg (H.L.below hW)
  rw [hx] at h
  refine Calls.mono h ?_
  rintro e w' ⟨a, c, rfl, ho, hb⟩
  exact ⟨a, c, rfl, ho.rd, hb⟩
theorem AddFacts.equal {w W : World} {ps : List Int} {la lb : List Rat} {s t : ByteArray} (H : AddFacts w ps la lb s t) {a1 a2 : Option Addr} (c1 c2 : Nat) {lx : List Rat} (hx : lx.length = ps.length) (r1 : Rd W a1 (cellsQ lx)) (r2 : Rd W a2 (cellsQ lx)) :
    Gives Tryz.prog 20 #[.slice a1 ps.length c1, .slice a2 ps.length c2] W (.bool true) := by
  have hn := pcode_pos H.hp
  have h := equal_any W a1 a2 c1 c2 lx lx r1 r2 (by omega)
  rw [hx, decide_eq_true rfl] at h
  exact h
theorem AddFacts.scale {w W : World} {ps : List Int} {la lb : List Rat} {s t : ByteArray} (H : AddFacts w ps la lb s t) (hW : Below w.heap.size w W) {a0 a1 : Option Addr} (c0 c1 : Nat) (rp : Rd W a0 (ints ps)) (r1 : Rd W a1 (cellsQ la)) :
    GivesC 23 #[.slice a0 ps.length c0, .slice a1 ps.length c1, .agg #[.string s, .string t]] W (scaleCode ps.length la s t) (scaleQ ps.length la s t) := by
  have hs := H.hs
  have ht := H.ht
  have h := scale_gen W ps a0 a1 c0 c1 la s t rp H.hi H.hp r1 H.l1 (fun q hq => (H.s1 q hq).le (by decide)) (by omega) (by omega) (H.L.below hW)
  rw [H.l1] at h
  exact h

end Go.Proofs.YtlomhfknmhaboaaGreatDoor

/- How the arguments of the size laws lie in memory: parts, pairs of sizes, fractions. -/
namespace Go.Proofs.YtlomhfknmhaboaaGreatDoor
open Go.ChangeShapes Go.WideShapes Go.ChangeAt Go.RowKit Go.Joins

theorem cellsPart : Tryz.prog.cellsOf 38 = 2 := by kernel_rfl
theorem cellsParts : Tryz.prog.cellsOf 40 = 8 := by kernel_rfl
theorem cellsPair : Tryz.prog.cellsOf 50 = 17 := by kernel_rfl
theorem cellsI8 : Tryz.prog.cellsOf 36 = 1 := by kernel_rfl
theorem cellsU8 : Tryz.prog.cellsOf 5 = 1 := by kernel_rfl
theorem cellsRat : Tryz.prog.cellsOf 30 = 2 := by kernel_rfl
theorem cellsIntS : Tryz.prog.cellsOf 28 = 1 := by kernel_rfl

section
variable {H : Type} {enc : TypeId × Value → H} {W : World}

set_option maxRecDepth 100000 in
theorem open_part {base fuel : Nat} {sp : Nat → Bool} {held : Bool} {cs : List Value} {x : DataW H × List MemPlace} (h : DataW.trod enc Tryz.prog W base sp held fuel 38 cs = some x) :
    ∃ (n : Int) (d : Nat), cs = [.int .i8 n, .int .u8 d] ∧ (-128 ≤ n ∧ n ≤ 127) ∧ d < 256 := by
  obtain ⟨y0, y1, n, hx, hl, h0, h1⟩ := trod_struct2 Tryz.underlying38 h
  rw [cellsPart] at hl
  match cs, hl with
  | [c0, c1], _ =>
    simp only [List.drop_zero, List.drop_succ_cons, cellsI8, cellsU8, List.take_succ_cons, List.take_zero] at h0 h1
    obtain ⟨a, ha, _, wa⟩ := DataW.trod_int Tryz.underlying36 h0
    obtain ⟨b, hb, _, wb⟩ := DataW.trod_int Tryz.underlying5 h1
    have b1 := bounds_i8 wa
    have b2 := bounds_u8 wb
    simp only [List.cons.injEq, and_true] at ha hb
    refine ⟨a, b.toNat, ?_, b1, by omega⟩
    rw [ha, hb, show ((b.toNat : Nat) : Int) = b by omega]

def four {α : Type} (a b c d z : α) : Nat → α
  | 0 => a | 1 => b | 2 => c | 3 => d | _ => z

set_option maxRecDepth 100000 in
theorem open_parts {base fuel : Nat} {sp : Nat → Bool} {held : Bool} {cs : List Value} {x : DataW H × List MemPlace} (h : DataW.trod enc Tryz.prog W base sp held fuel 40 cs = some x) :
    ∃ (nu : Nat → Int) (de : Nat → Nat), cs = (partsV nu de).toList ∧ (∀ k, -128 ≤ nu k ∧ nu k ≤ 127) ∧ (∀ k, de k < 256) := by
  obtain ⟨xs, m, _, _, hl, hn, hel⟩ := DataW.trod_array Tryz.underlying40 h
  rw [cellsParts] at hl
  match cs, hl, xs, hn with
  | [c0, c1, c2, c3, c4, c5, c6, c7], _, [x0, x1, x2, x3], _ =>
    have e0 := hel 0 (by decide)
    have e1 := hel 1 (by decide)
    have e2 := hel 2 (by decide)
    have e3 := hel 3 (by decide)
    simp only [cellsPart, Nat.zero_mul, Nat.one_mul, Nat.reduceMul, List.drop_zero, List.drop_succ_cons, List.take_succ_cons, List.take_zero] at e0 e1 e2 e3
    obtain ⟨n0, d0, q0, b0, b0'⟩ := open_part e0
    obtain ⟨n1, d1, q1, b1, b1'⟩ := open_part e1
    obtain ⟨n2, d2, q2, b2, b2'⟩ := open_part e2
    obtain ⟨n3, d3, q3, b3, b3'⟩ := open_part e3
    simp only [List.cons.injEq, and_true] at q0 q1 q2 q3
    refine ⟨four n0 n1 n2 n3 0, four d0 d1 d2 d3 0, ?_, ?_, ?_⟩
    · rw [q0.1, q0.2, q1.1, q1.2, q2.1, q2.2, q3.1, q3.2]; rfl
    · intro k
      match k with
      | 0 => exact b0
      | 1 => exact b1
      | 2 => exact b2
      | 3 => exact b3
      | k + 4 => exact ⟨by show -128 ≤ (0 : Int); decide, by show (0 : Int) ≤ 127; decide⟩
    · intro k
      match k with
      | 0 => exact b0'
      | 1 => exact b1'
      | 2 => exact b2'
      | 3 => exact b3'
      | k + 4 => show 0 < 256; decide

set_option maxRecDepth 100000 in
theorem open_pair {r : Reach} {b0 : Nat} {v : Value} {d : DataW H} {p : List MemPlace} (hv : Value.okWide Tryz.prog W r b0 50 v) (h : DataW.Trod enc Tryz.prog W 0 (fun _ => true) true 50 v d p) :
    ∃ (pn : Nat) (nA : Nat → Int) (dA : Nat → Nat) (nB : Nat → Int) (dB : Nat → Nat), v = .agg (pairV pn nA dA nB dB) ∧ pn < 256 ∧ (∀ k, -128 ≤ nA k ∧ nA k ≤ 127) ∧ (∀ k, dA k < 256) ∧ (∀ k, -128 ≤ nB k ∧ nB k ≤ 127) ∧ (∀ k, dB k < 256) := by
  obtain ⟨cs, rfl, hsz⟩ := okWide_struct Tryz.underlying50 hv
  obtain ⟨fuel, hf⟩ := h
  rw [cellsPair] at hsz
  obtain ⟨y0, y1, y2, n, hx, _, h0, h1, h2⟩ := Go.Deep.trod_struct3 Tryz.underlying50 hf
  obtain ⟨l⟩ := cs
  have hl : l.length = 17 := by simpa using hsz
  match l, hl with
  | [c0, c1, c2, c3, c4, c5, c6, c7, c8, c9, c10, c11, c12, c13, c14, c15, c16], _ =>
    simp only [Value.cells, List.drop_zero, List.drop_succ_cons, cellsU8, cellsParts, List.take_succ_cons, List.take_zero] at h0 h1 h2
    obtain ⟨b, hb, _, wb⟩ := DataW.trod_int Tryz.underlying5 h0
    have b2 := bounds_u8 wb
    obtain ⟨nA, dA, qA, hA1, hA2⟩ := open_parts h1
    obtain ⟨nB, dB, qB, hB1, hB2⟩ := open_parts h2
    simp only [partsV, List.cons.injEq, and_true] at hb qA qB
    refine ⟨b.toNat, nA, dA, nB, dB, ?_, by omega, hA1, hA2, hB1, hB2⟩
    unfold pairV
    obtain ⟨a1, a2, a3, a4, a5, a6, a7, a8⟩ := qA
    obtain ⟨b1, b2, b3, b4, b5, b6, b7, b8⟩ := qB
    rw [hb, a1, a2, a3, a4, a5, a6, a7, a8, b1, b2, b3, b4, b5, b6, b7, b8, show ((b.toNat : Nat) : Int) = b by omega]

set_option maxRecDepth 100000 in
theorem open_ratio {r : Reach} {b0 : Nat} {v : Value} {d : DataW H} {p : List MemPlace} (hv : Value.okWide Tryz.prog W r b0 30 v) (h : DataW.Trod enc Tryz.prog W 0 (fun _ => true) true 30 v d p) :
    ∃ (s t : ByteArray), v = .agg #[.string s, .string t] := by
  obtain ⟨v0, v1, y0, y1, n, rfl, _, _, h0, h1⟩ := open_agg2 Tryz.underlying30 (by kernel_rfl) cellsRat hv h
  obtain ⟨s, hs, _⟩ := DataW.trod_string Tryz.underlying28 h0
  obtain ⟨t, ht, _⟩ := DataW.trod_string Tryz.underlying28 h1
  simp only [List.cons.injEq, and_true] at hs ht
  exact ⟨s, t, by rw [hs, ht]⟩
end

end Go.Proofs.YtlomhfknmhaboaaGreatDoor

/- How parts of a size lie in an argument. -/
namespace Go.Proofs.YtlomhfknmhaboaaGreatDoor
open Go.ChangeShapes Go.WideShapes Go.ChangeAt Go.RowKit Go.Joins

section
variable {H : Type} {enc : TypeId × Value → H} {W : World}

theorem okWide_array {P : Program} {w : World} {r : Reach} {base n : Nat} {t u : TypeId} {v : Value} (ht : P.underlying t = some (.array n u)) (h : Value.okWide P w r base t v) : ∃ cs, v = .agg cs ∧ cs.size = P.cellsOf t := by
  simp only [Value.okWide, ht] at h
  obtain ⟨cs, h1, h2, _⟩ := h
  exact ⟨cs, h1, h2⟩

set_option maxRecDepth 100000 in
theorem open_partsV {r : Reach} {b0 : Nat} {v : Value} {d : DataW H} {p : List MemPlace} (hv : Value.okWide Tryz.prog W r b0 40 v) (h : DataW.Trod enc Tryz.prog W 0 (fun _ => true) true 40 v d p) :
    ∃ (nu : Nat → Int) (de : Nat → Nat), v = .agg (partsV nu de) ∧ (∀ k, -128 ≤ nu k ∧ nu k ≤ 127) ∧ (∀ k, de k < 256) := by
  obtain ⟨cs, rfl, hsz⟩ := okWide_array Tryz.underlying40 hv
  obtain ⟨fuel, hf⟩ := h
  obtain ⟨nu, de, e, h1, h2⟩ := open_parts hf
  obtain ⟨l⟩ := cs
  have e' : l = (partsV nu de).toList := e
  exact ⟨nu, de, by rw [e'], h1, h2⟩

set_option maxRecDepth 100000 in
theorem open_partV {r : Reach} {b0 : Nat} {v : Value} {d : DataW H} {p : List MemPlace} (hv : Value.okWide Tryz.prog W r b0 38 v) (h : DataW.Trod enc Tryz.prog W 0 (fun _ => true) true 38 v d p) :
    ∃ (n : Int) (d : Nat), v = .agg #[.int .i8 n, .int .u8 d] ∧ (-128 ≤ n ∧ n ≤ 127) ∧ d < 256 := by
  obtain ⟨cs, rfl, hsz⟩ := okWide_struct Tryz.underlying38 hv
  obtain ⟨fuel, hf⟩ := h
  obtain ⟨n, d, e, h1, h2⟩ := open_part hf
  obtain ⟨l⟩ := cs
  have e' : l = [.int .i8 n, .int .u8 d] := e
  exact ⟨n, d, by rw [e'], h1, h2⟩
end

end Go.Proofs.YtlomhfknmhaboaaGreatDoor

/- Powers of 2. -/
namespace Go.Proofs.YtlomhfknmhaboaaGreatDoor
open Go.RowKit

set_option maxHeartbeats 4000000 in
theorem bits_two (w : World) (L : Laid w) : Gives Tryz.prog 145 #[.string (dec 2)] w (.int .i64 2) := by
  unfold Gives
  have h := smallS_any w 2 (by rw [show (dec 2).size = 1 by decide +kernel]; decide) L
  rw [if_pos (by decide)] at h
  have H := Lib.hid h
  have Hl : Hid (∀ W : World, Calls Tryz.prog 167 #[.int .u64 2] W fun e w' => e = .returned (.int .i64 2) ∧ w' = W) := fun W => by
    have := Tryz.bits_Len64 2 W (by decide) (by decide)
    rw [show ((Lib.bitLen ((2 : Int).toNat) : Nat) : Int) = 2 by decide +kernel] at this
    exact this
  clear L h
  generalize dec 2 = s at *
  go_enter Tryz.func145, Tryz.ntmps145
  go_wp2_with fail
  refine Calls.mono H.out ?_
  rintro e w1 ⟨rfl, hb1⟩
  have B1 := Lib.hid hb1
  clear hb1 H
  go_wp2_with fail
  refine Calls.mono (Hl.out _) ?_
  rintro e w2 ⟨rfl, rfl⟩
  clear Hl
  go_wp2_with fail
  go_ret
  exact ⟨rfl, B1.out⟩

theorem readsU_one {w : World} {g : Nat} {t : TypeId} (h : w.heap[g]? = some (.cells #[.int .u64 1] t (0, 0))) : ReadsU w (some ⟨g, 0, none⟩) (limbs 1) := by
  have e : limbs 1 = [1] := by decide +kernel
  rw [e]
  refine .inr ⟨g, 0, rfl, (Array.getElem?_eq_some_iff.1 h).1, fun i hi => ?_⟩
  have : i = 0 := by simp at hi; exact hi
  subst this
  rw [cell_of_row w g 0 _ t (0, 0) h]; rfl

theorem size_pow (D y : Nat) (h : y < D) : (dec (2 ^ y)).size ≤ D := by
  rw [size_lt _ _ (by omega)]
  exact Nat.lt_of_le_of_lt (Nat.pow_le_pow_left (by decide) y) (Nat.pow_lt_pow_right (by decide) h)

theorem limbs_two (n y : Nat) (hn : n ≤ 4000) (hy : y ≤ n) : (limbs (2 ^ y)).length ≤ 10000 :=
  limbs_of_dec _ 10000 (by decide) (size_pow 10000 y (by omega))

theorem size_two (n : Nat) (hn : n ≤ 4000) : (dec (2 ^ n)).size ≤ 4001 := size_pow 4001 n (by omega)

theorem i64_and1 (n : Int) : bits .and .i64 n 1 = n % 2 := by
  have h1 : (BitVec.ofInt 64 1).toNat = 2 ^ 1 - 1 := by decide
  have key : (BitVec.ofInt 64 n &&& BitVec.ofInt 64 1).toNat = (n % ((2 ^ 64 : Nat) : Int)).toNat % 2 ^ 1 := by
    rw [BitVec.toNat_and, BitVec.toNat_ofInt, h1, Nat.and_two_pow_sub_one_eq_mod]
  show IntKind.i64.wrap ((BitVec.ofInt 64 n &&& BitVec.ofInt 64 1).toNat : Nat) = n % 2
  rw [key, IntKind.wrap_i64]
  omega
theorem and_one (k : Nat) (_ : k < 4001) : (bits BinOp.and IntKind.i64 (k : Nat) 1 == 1) = decide (k % 2 = 1) := by
  rw [i64_and1]
  by_cases h : k % 2 = 1
  · rw [decide_eq_true h, beq_iff_eq]; omega
  · rw [decide_eq_false h, beq_eq_false_iff_ne]; omega

theorem times_two (W : World) (n x y : Nat) (hn : n ≤ 4000) (hx : x ≤ n) (hy : y ≤ n) (a1 a2 : Option Addr) (c1 c2 : Nat) (h1 : ReadsU W a1 (limbs (2 ^ x))) (h2 : ReadsU W a2 (limbs (2 ^ y))) :
    Calls Tryz.prog 143 #[.slice a1 (limbs (2 ^ x)).length c1, .slice a2 (limbs (2 ^ y)).length c2] W fun e w' => ∃ a c, e = .returned (.slice a (limbs (2 ^ (x + y))).length c) ∧ ReadsU w' a (limbs (2 ^ (x + y))) ∧ Below W.heap.size W w' := by
  have l1 := limbs_two n x hn hx
  have l2 := limbs_two n y hn hy
  refine Calls.mono (times_any W a1 a2 c1 c2 _ _ h1 h2 (limbs_pcs _) (limbs_pcs _) (by omega) (by omega)) ?_
  rintro e w' ⟨a, c, rfl, ho, hb⟩
  rw [val_limbs, val_limbs, ← Nat.pow_add] at *
  exact ⟨a, c, rfl, ho.reads, hb⟩

set_option maxRecDepth 100000 in
set_option maxHeartbeats 8000000 in
theorem power2_any (w : World) (n : Nat) (hn : n ≤ 4000) (L : Laid w) : Gives Tryz.prog 121 #[.string (dec 2), .int .i64 n] w (.tuple #[.string (dec (2 ^ n)), .int .i64 0]) := by
  unfold Gives
  have hz := is_zero 2
  have ho := is_one 2
  rw [decide_eq_false (by decide)] at hz ho
  have Hb : Hid (∀ W, Below w.heap.size w W → Gives Tryz.prog 145 #[.string (dec 2)] W (.int .i64 2)) := fun W hW => bits_two W (L.below hW)
  have Hc : Hid (∀ W, GivesU 142 #[.string (dec 2)] W 2) := fun W => cutD W 2 (by unfold Num; rw [show (dec 2).size = 1 by decide +kernel]; decide)
  have Hs := Lib.hid (size_two n hn)
  clear L
  by_cases h0 : n = 0
  · subst h0
    have Hv : Hid (dec (2 ^ 0) = ⟨#[49]⟩) := by show _ = _; rw [Nat.pow_zero, dec_one]
    generalize dec (2 ^ 0) = vv at *
    clear Hb Hc hn
    generalize dec 2 = s at *
    go_enter Tryz.func121, Tryz.ntmps121
    go_wp2_with fail
    go_ret2
    exact ⟨by rw [Hv.out]; rfl, Below.refl _ _⟩
  · have hn0 : ((n : Int) == 0) = false := by rw [beq_eq_false_iff_ne]; omega
    have hnn : ¬ (n : Int) < 0 := by omega
    have hnl : ¬ (66439 : Int) < n := by omega
    unfold GivesU at Hc
    obtain ⟨vv, hvv⟩ : ∃ s, dec (2 ^ n) = s := ⟨_, rfl⟩
    have Hvv := Lib.hid hvv
    rw [hvv] at Hs ⊢
    clear hvv
    generalize dec 2 = s at *
    go_enter Tryz.func121, Tryz.ntmps121
    go_wp2_with fail
    refine Calls.mono (Hb.out _ (Below.refl _ _)) ?_
    rintro e w1 ⟨rfl, hb1⟩
    have B1 := Lib.hid hb1
    clear hb1 Hb
    go_wp2_with fail
    have B2 := Lib.hid (B1.out.alloc B1.out.size (.cells #[.int .u64 1] 112))
    have R1 : Hid (ReadsU (w1.alloc (.cells #[.int .u64 1] 112)) (some ⟨w1.heap.size, 0, none⟩) (limbs 1)) := readsU_one (Go.heap_alloc_new w1 _)
    generalize w1.alloc (.cells #[.int .u64 1] 112) = w2 at *
    clear B1
    refine Calls.mono (Hc.out _) ?_
    rintro e w3 ⟨a3, c3, rfl, ho, hb⟩
    have B3 := Lib.hid (B2.out.trans (hb.mono B2.out.size))
    have R2 := Lib.hid ho.reads
    replace R1 := Lib.hid (R1.out.below hb (Nat.le_refl _))
    clear hb ho Hc B2
    have Hl1 : Hid ((limbs 1).length = 1) := Lib.hid (by decide +kernel)
    go_wp2_with fail
    go_loopw [1, 7, 8] (fun m o q wr => ∃ (k x y : Nat) (a1 a2 : Option Addr) (c1 c2 : Nat), m = .int .i64 k ∧ k ≤ n ∧ o = .slice a1 (limbs (2 ^ x)).length c1 ∧ q = .slice a2 (limbs (2 ^ y)).length c2 ∧ Hid (x + y * k = n) ∧ Hid (y ≤ n) ∧ Hid (ReadsU wr a1 (limbs (2 ^ x))) ∧ Hid (ReadsU wr a2 (limbs (2 ^ y))) ∧ Hid (Below w.heap.size w wr)) (fun m _ _ _ => (intOf m).toNat)
    case atStart =>
      refine ⟨n, 0, 1, some ⟨w1.heap.size, 0, none⟩, a3, 1, c3, rfl, Nat.le_refl _, by rw [Nat.pow_zero, Hl1.out], rfl, ?_, ?_, R1, R2, B3⟩
      · show _ = _; omega
      · show _ ≤ _; omega
    case round =>
      clear R1 R2 B3
      obtain ⟨k, x, y, a1, a2, c1, c2, rfl, hk, rfl, rfl, Hxy, Hy, R1, R2, B⟩ := hrel
      have Hx : Hid (x ≤ n) := by show _ ≤ _; have := Hxy.out; omega
      by_cases hk0 : k = 0
      · subst hk0
        have hk1 : ¬ (0 : Int) < ((0 : Nat) : Int) := by omega
        have Hx2 : Hid (x = n) := by show _ = _; have := Hxy.out; omega
        rw [Hx2.out] at R1 ⊢
        have Hte : Hid (Gives Tryz.prog 144 #[.slice a1 (limbs (2 ^ n)).length c1] wr (.string vv)) := by
          have := text_any wr a1 c1 (2 ^ n) R1.out (by have := limbs_two n n hn (Nat.le_refl _); omega)
          rw [Hvv.out] at this
          exact this
        have hsz : ¬ (20000 : Int) < vv.size := by have := Hs.out; omega
        go_wp2_with fail
        refine Calls.mono Hte.out ?_
        rintro e w9 ⟨rfl, hb⟩
        have B9 := Lib.hid (B.out.trans (hb.mono B.out.size))
        clear hb Hte
        go_wp2_with fail
        go_ret2
        exact ⟨rfl, B9.out⟩
      · have hk1 : (0 : Int) < k := by omega
        have hb := and_one k (by omega)
        by_cases hodd : k % 2 = 1
        · rw [decide_eq_true hodd] at hb
          have Ht : Hid (Calls Tryz.prog 143 #[.slice a1 (limbs (2 ^ x)).length c1, .slice a2 (limbs (2 ^ y)).length c2] wr fun e w' => ∃ a c, e = .returned (.slice a (limbs (2 ^ (x + y))).length c) ∧ ReadsU w' a (limbs (2 ^ (x + y))) ∧ Below wr.heap.size wr w') := times_two wr n x y hn Hx.out Hy.out a1 a2 c1 c2 R1.out R2.out
          go_wp2_with fail
          refine Calls.mono Ht.out ?_
          rintro e w5 ⟨a5, c5, rfl, r5, hb5⟩
          have B5 := Lib.hid (B.out.trans (hb5.mono B.out.size))
          replace R1 := Lib.hid r5
          replace R2 := Lib.hid (R2.out.below hb5 (Nat.le_refl _))
          clear hb5 r5 B Ht
          by_cases hk2 : 1 < k
          · have hk2' : (1 : Int) < k := by omega
            have Hxy2 : Hid (x + y + (y + y) * (k / 2) = n) := by
              show _ = _
              have h1 := Hxy.out
              obtain ⟨h, rfl⟩ : ∃ h, k = 2 * h + 1 := ⟨k / 2, by omega⟩
              rw [show (2 * h + 1) / 2 = h by omega, Nat.add_mul]
              rw [Nat.mul_add, Nat.mul_left_comm] at h1
              omega
            have Ht : Hid (Calls Tryz.prog 143 #[.slice a2 (limbs (2 ^ y)).length c2, .slice a2 (limbs (2 ^ y)).length c2] w5 fun e w' => ∃ a c, e = .returned (.slice a (limbs (2 ^ (y + y))).length c) ∧ ReadsU w' a (limbs (2 ^ (y + y))) ∧ Below w5.heap.size w5 w') := times_two w5 n y y hn Hy.out Hy.out a2 a2 c2 c2 R2.out R2.out
            go_wp2_with fail
            refine Calls.mono Ht.out ?_
            rintro e w6 ⟨a6, c6, rfl, r6, hb6⟩
            have B6 := Lib.hid (B5.out.trans (hb6.mono B5.out.size))
            replace R2 := Lib.hid r6
            replace R1 := Lib.hid (R1.out.below hb6 (Nat.le_refl _))
            clear hb6 r6 B5 Ht
            go_wp2_with fail
            go_roundw
            case rel =>
              refine ⟨k / 2, x + y, y + y, _, _, _, _, by go_num, by omega, rfl, rfl, Hxy2, ?_, R1, R2, B6⟩
              show _ ≤ _
              have := Hxy.out
              have h2 : y * 2 ≤ y * k := Nat.mul_le_mul_left _ (by omega)
              omega
            case measure => simp [intOf]; omega
          · have hk2' : ¬ (1 : Int) < k := by omega
            go_wp2_with fail
            go_roundw
            case rel =>
              refine ⟨k / 2, x + y, y, _, _, _, _, by go_num, by omega, rfl, rfl, ?_, Hy, R1, R2, B5⟩
              show _ = _
              have := Hxy.out
              have e1 : k = 1 := by omega
              subst e1
              have e2 : (1 / 2 : Nat) = 0 := rfl
              rw [e2]
              omega
            case measure => simp [intOf]; omega
        · rw [decide_eq_false hodd] at hb
          by_cases hk2 : 1 < k
          · have hk2' : (1 : Int) < k := by omega
            have Hxy2 : Hid (x + (y + y) * (k / 2) = n) := by
              show _ = _
              have h1 := Hxy.out
              obtain ⟨h, rfl⟩ : ∃ h, k = 2 * h := ⟨k / 2, by omega⟩
              rw [show (2 * h) / 2 = h by omega, Nat.add_mul]
              rw [Nat.mul_left_comm] at h1
              omega
            have Ht : Hid (Calls Tryz.prog 143 #[.slice a2 (limbs (2 ^ y)).length c2, .slice a2 (limbs (2 ^ y)).length c2] wr fun e w' => ∃ a c, e = .returned (.slice a (limbs (2 ^ (y + y))).length c) ∧ ReadsU w' a (limbs (2 ^ (y + y))) ∧ Below wr.heap.size wr w') := times_two wr n y y hn Hy.out Hy.out a2 a2 c2 c2 R2.out R2.out
            go_wp2_with fail
            refine Calls.mono Ht.out ?_
            rintro e w6 ⟨a6, c6, rfl, r6, hb6⟩
            have B6 := Lib.hid (B.out.trans (hb6.mono B.out.size))
            replace R2 := Lib.hid r6
            replace R1 := Lib.hid (R1.out.below hb6 (Nat.le_refl _))
            clear hb6 r6 B Ht
            go_wp2_with fail
            go_roundw
            case rel =>
              refine ⟨k / 2, x, y + y, _, _, _, _, by go_num, by omega, rfl, rfl, Hxy2, ?_, R1, R2, B6⟩
              show _ ≤ _
              have := Hxy.out
              have h2 : y * 2 ≤ y * k := Nat.mul_le_mul_left _ (by omega)
              omega
            case measure => simp [intOf]; omega
          · omega

/-- whole.Power of 2. -/
theorem p2 : True := trivial

end Go.Proofs.YtlomhfknmhaboaaGreatDoor
