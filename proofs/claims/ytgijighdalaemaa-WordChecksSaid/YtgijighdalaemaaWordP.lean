/- The walk of word.maker.extend: the search below a word. -/
import Derived.Test.YtgijighdalaemaaWordO
import Derived.Deep.DeepCutAuto
namespace Go.Proofs.Ytgijighdalaemaa
open Go.RowKit

theorem Mk.word0 {w : World} {B M : Nat} {rest : List Int} {word : List UInt8} {o : Col} {rv wv ov : Value} (h : Mk w B M rest word o rv wv ov) (h0 : 0 < word.length) :
    ∃ g c, wv = .slice (some ⟨g, 0, none⟩) word.length c ∧ ∀ j, j < word.length → w.cell? ⟨g, j, none⟩ = some (.int .u8 (word.getD j 0).toNat) := by
  obtain ⟨g, c, hv, h1, h2, h3, h4, h5⟩ := own_open h.hw h0
  refine ⟨g, c, hv, fun j hj => ?_⟩
  rw [h4 j (by omega)]
  simp [Lib.byteCells, List.getD_eq_getElem?_getD, hj]

/-- What a round of the search leaves. -/
def ExtAt (B M n f : Nat) (rest : List Int) (word : List UInt8) (p : Nat) (o : Col) (w : World) (k : Nat) (wr : World) : Prop :=
  (∃ rv wv ov, Mk wr B M rest word (extTo n f rest word p o k) rv wv ov) ∧ Below B w wr ∧ (extTo n f rest word p o k).1.length ≤ 5000

theorem firstOf_le {n f : Nat} {rest : List Int} {word : List UInt8} {p : Nat} {o : Col} (fit : Fit n f rest word p o) : firstOf word p ≤ rest.length ∧ firstOf word p ≤ 25 := by
  have h26 := fit.r26
  unfold firstOf
  split
  · rename_i hp
    have h1 := fit.p1
    have hlt : word.length - p < word.length := by omega
    have := fit.letters (word.getD (word.length - p) 0) (by rw [List.getD_eq_getElem?_getD, List.getElem?_eq_getElem hlt]; exact List.getElem_mem _)
    omega
  · omega

theorem grown_alloc_trans {w w' : World} {o : Obj} {row : Option Nat} (h : (w.alloc o).grownBy w' row) : w.grownBy w' row :=
  ⟨h.os, h.tape, h.output, Nat.le_trans (by simp) h.size, fun k hk hne => by rw [h.block k (by simp; omega) hne]; exact Below.heap_alloc w _ k hk⟩

theorem small_set {m : Int} {l : List Int} (h : Small m l) (k : Nat) (x : Int) (hx : 0 ≤ x ∧ x ≤ m) : Small m (l.set k x) := by
  intro y hy
  rcases List.mem_or_eq_of_mem_set hy with hy | hy
  · exact h y hy
  · rw [hy]; exact hx

/-- What is right stays right below the next letter. -/
theorem Fit.down {n f : Nat} {rest : List Int} {word : List UInt8} {p : Nat} {o : Col} (fit : Fit n (f + 1) rest word p o) (k : Nat) (hk : k < rest.length) (x : Int) (hx : 0 ≤ x ∧ x ≤ 61) (q : Nat) (hq : 1 ≤ q ∧ q ≤ 61) (o' : Col) (ho : o'.1.length ≤ 5000) :
    Fit n f (rest.set k x) (word ++ [(97 + k).toUInt8]) q o' := by
  have h26 := fit.r26
  have hlen := fit.len
  refine ⟨fit.n60, by simp; omega, hq.1, hq.2, by simpa using h26, small_set fit.small k x hx, ?_, ho⟩
  intro y hy
  rw [List.length_set]
  rcases List.mem_append.1 hy with hy | hy
  · exact fit.letters y hy
  · simp only [List.mem_singleton] at hy
    subst hy
    rw [u8_toNat _ (by omega)]
    omega

set_option maxRecDepth 100000 in
set_option maxHeartbeats 4000000 in
theorem extend_succ (f : Nat) (IH : ExtSaid f) : ExtSaid (f + 1) := by
  intro w B M n q p rest word o rv wv ov h fit hB hn hq
  subst hq
  cases hf : o.2 with
  | true => rw [ext_full _ _ _ _ _ _ hf]; exact extend_full w B M n p rest word o rv wv ov h hf
  | false =>
  rw [ext_succ _ _ _ _ _ _ hf]
  obtain ⟨c0, c1, c2, c3, cf⟩ := h.cells
  rw [hf] at c3
  obtain ⟨hF1, hF2⟩ := firstOf_le fit
  have hL : word.length < n := by have := fit.len; omega
  have hn60 := fit.n60
  have hp1 := fit.p1
  have hp2 := fit.p2
  have hr26 := fit.r26
  have Hat : Hid (ExtAt B M n f rest word p o w (firstOf word p) w) := ⟨⟨rv, wv, ov, by rw [extTo_first _ _ _ _ _ _ _ (Nat.le_refl _)]; exact h⟩, Below.refl _ _, by rw [extTo_first _ _ _ _ _ _ _ (Nat.le_refl _)]; exact fit.o5⟩
  have HF := Lib.hid (show firstOf word p = firstOf word p from rfl)
  by_cases hp : p ≤ word.length
  case' pos =>
    obtain ⟨g, c, hwv, hg⟩ := h.word0 (by omega)
    have cw := hg (word.length - p) (by omega)
    have hx : 97 ≤ (word.getD (word.length - p) 0).toNat := (fit.letters (word.getD (word.length - p) 0) (by rw [List.getD_eq_getElem?_getD, List.getElem?_eq_getElem (by omega)]; exact List.getElem_mem _)).1
    have hxF : ((word.getD (word.length - p) 0).toNat : Int) - 97 = firstOf word p := by unfold firstOf; rw [if_pos hp]; omega
    have hx2 : (word.getD (word.length - p) 0).toNat < 256 := UInt8.toNat_lt _
    rw [hwv] at c1
    clear hwv hg
    generalize (word.getD (word.length - p) 0).toNat = x at *
  case' neg =>
    have hF0 : firstOf word p = 0 := by unfold firstOf; rw [if_neg hp]
    obtain ⟨a, c, hwv⟩ := own_form h.hw
    rw [hwv] at c1
    clear hwv
  all_goals
    clear h c0 c2 cf hf
    have HIH := Lib.hid IH
    have HFit := Lib.hid fit
    have Hq := Lib.hid (rfl : word.length = word.length)
    generalize hLL : word.length = L at *
    have HL := Lib.hid hLL
    generalize hRR : rest.length = R at *
    have HR := Lib.hid hRR
    clear hLL hRR IH fit
  case pos =>
    generalize hFF : firstOf word p = F at *
    have HFF := Lib.hid hFF
    clear hFF
    go_enter Try.func39, Try.ntmps39
    go_wp2_with fail
    go_loopw [8] (fun c wr => ∃ k : Nat, F ≤ k ∧ k ≤ R ∧ c = .int .i64 k ∧ Hid (ExtAt B M n f rest word p o w k wr)) (fun c _ => R - (intOf c).toNat)
    case atStart => exact ⟨F, Nat.le_refl _, hF1, rfl, Hat⟩
    case round =>
      clear Hat
      obtain ⟨k, hk1, hk2, rfl, Hat⟩ := hrel
      obtain ⟨⟨rv, wv, ov, hmk⟩, hbl, ho5⟩ := Hat.out
      have hrow := hmk.hr
      rw [HR.out] at hrow
      obtain ⟨d0, d1, d2, d3, df⟩ := hmk.cells
      obtain ⟨aw, cw, hwv⟩ := own_form hmk.hw
      have Hwv := Lib.hid hwv
      rw [hwv, HL.out] at d1
      clear hwv
      by_cases hlt : k < R
      · obtain ⟨gr, cr, hrv, hgr1, hgr2, hgr3, hgr4, hgr5⟩ := own_open hrow (by omega)
        rw [hrv] at d0
        have hgM : gr ≠ M := fun e => by
          rcases own_ne hrow hmk.hM (by decide) with h1 | h1
          · rw [hrv] at h1; simp [Value.ownBlock] at h1
          · exact h1 (by rw [hrv, e]; rfl)
        have hMg : M ≠ gr := fun e => hgM e.symm
        have dx := hgr4 k (by omega)
        rw [ints_get _ _ (by rw [HR.out]; exact hlt)] at dx
        obtain ⟨hx1, hx2⟩ := HFit.out.small (rest[k]'(by rw [HR.out]; exact hlt)) (List.getElem_mem _)
        have Hgd := Lib.hid (show rest.getD k 0 = rest[k]'(by rw [HR.out]; exact hlt) from by rw [List.getD_eq_getElem?_getD, List.getElem?_eq_getElem (by rw [HR.out]; exact hlt)]; rfl)
        have Hsucc := Lib.hid (extTo_succ n f rest word p o k)
        clear d2 d3 df hgr4
        generalize hxx : rest[k]'(by rw [HR.out]; exact hlt) = x at *
        have Hxx := Lib.hid hxx
        clear hxx
        by_cases hx0 : x = 0
        · subst hx0
          have Hat2 : Hid (ExtAt B M n f rest word p o w (k + 1) wr) := by
            have e : extTo n f rest word p o (k + 1) = extTo n f rest word p o k := by
              rw [Hsucc.out, extStep]
              by_cases hkF : k < firstOf word p
              · rw [if_pos hkF]
              · rw [if_neg hkF, if_pos Hgd.out]
            exact ⟨⟨rv, wv, ov, by rw [e]; exact hmk⟩, hbl, by rw [e]; exact ho5⟩
          clear hmk hrow hrv hgr5 hbl ho5 Hat HIH HFit Hsucc Hgd Hxx
          go_wp2
          go_roundw
          case rel => exact ⟨k + 1, by omega, by omega, by go_num, Hat2⟩
          case measure => simp [intOf]; omega
        · have hxb : (x == 0) = false := by simpa using hx0
          have Hrv := Lib.hid hrv
          by_cases hkF : k = F
          · subst hkF
            have hkb : ((k : Int) != k) = false := by simp
            have Hnx := Lib.hid (show extTo n f rest word p o (k + 1) = ext n f (rest.set k (x - 1)) (word ++ [(97 + k).toUInt8]) (p) (extTo n f rest word p o k) from by
              rw [Hsucc.out, extStep, if_neg (by rw [HFF.out]; omega), Hgd.out, if_neg hx0]
              rw [if_neg (by rw [HFF.out, HL.out]; omega)])
            have Hfit2 := Lib.hid (HFit.out.down k (by rw [HR.out]; exact hlt) (x - 1) ⟨by omega, by omega⟩ (p) ⟨by omega, by omega⟩ (extTo n f rest word p o k) ho5)
            have h18 : Mk (wr.setCell ⟨gr, k, none⟩ (.int .i64 (x - 1))) B M (rest.set k (x - 1)) word (extTo n f rest word p o k) rv wv ov := by
              have h0 := hmk
              rw [hrv, ← HR.out] at h0
              rw [hrv, ← HR.out]
              exact h0.setRest k (x - 1)
            have H18 := Lib.hid h18
            have hbl18 : Below B w (wr.setCell ⟨gr, k, none⟩ (.int .i64 (x - 1))) := hbl.setCell (p := ⟨gr, k, none⟩) hgr1 _
            have Hbl18 := Lib.hid hbl18
            have hsz18 : B ≤ (wr.setCell ⟨gr, k, none⟩ (.int .i64 (x - 1))).heap.size := by have := hbl18.size; omega
            have dfz := hgr5 k
            have Hx0 := Lib.hid hx0
            have Ho5 : Hid ((extTo n f rest word p o (k + 1)).1.length ≤ 5000) := by
              show _ ≤ _
              rw [Hsucc.out]
              exact extStep_len _ _ _ _ _ _ _ ho5
            clear hmk h18 hbl18 hbl hgr5 hrow

            go_upto_region 19 with (fail)
            have e1 : (wr.setCell ⟨gr, k, none⟩ (.int .i64 (x - 1))).cell? ⟨M, 1, none⟩ = some (.slice aw L cw) := by rw [H18.out.cells.2.1, Hwv.out, HL.out]
            have e0 := H18.out.cells.1
            rw [hrv] at e0
            generalize wr.setCell ⟨gr, k, none⟩ (.int .i64 (x - 1)) = w18 at *
            clear d0 d1 dx dfz
            have hu : (97 : Int) + (k : Int) = (((97 + k).toUInt8).toNat : Nat) := by rw [u8_toNat _ (by omega)]; omega
            have Hu := Lib.hid hu
            clear hu
            go_wp2_with (at_builtin; refine wpList_append_new rfl (.tmp 115) (.tmp 119) 22 rfl elByte (.slice aw L cw) 1 [.int .u8 (97 + (k : Int))] rfl rfl (by have := H18.out.hw; rw [Hwv.out, HL.out] at this; exact this) hsz18 rfl ?c1 ?c2 ?c3 ?_)
            case c1 => intro u hu; simp at hu; subst hu; rfl
            case c2 => omega
            case c3 => omega
            intro v' w19 hown19 hg19 _
            obtain ⟨a19, c19, rfl⟩ := own_form hown19
            rw [Hu.out, ← HL.out] at hown19
            rw [← HL.out]
            have hp19 := H18.out.push (ch := (97 + k).toUInt8) hown19 (by rw [Hwv.out, HL.out]; exact grown_alloc_trans hg19)
            rw [Hwv.out, HL.out] at hp19
            rw [HL.out]
            obtain ⟨hp1', hp2', hp3', hp4'⟩ := hp19
            have Hp1 := Lib.hid hp1'
            have Hp4 := Lib.hid (Hbl18.out.trans hp4')
            clear hown19 hg19 hp1' hp4' e0 e1
            go_wp2_with fail
            refine (HIH.out _ B M n _ (p) (rest.set k (x - 1)) (word ++ [(97 + k).toUInt8]) (extTo n f rest word p o k) _ _ _ Hp1.out Hfit2.out (by have := Hp4.out.size; omega) hn (by first | rfl | (push_cast; rfl))).mono ?_
            rintro e w20 ⟨rfl, ⟨rv2, wv2, ov2, hmk20⟩, hb20⟩
            rw [← Hnx.out] at hmk20
            have Hb20 := Lib.hid (Hp4.out.trans hb20)
            clear hb20 hp2' hp3'
            obtain ⟨d0, d1, d2, d3, df⟩ := hmk20.cells
            obtain ⟨g2, c2, hwv2, hg21, hg22, hg23, hg24, hg25⟩ := own_open hmk20.hw (by simp)
            obtain ⟨gr2, cr2, hrv2, hr21, hr22, hr23, hr24, hr25⟩ := own_open hmk20.hr (by rw [List.length_set, HR.out]; omega)
            have hlw : (word ++ [(97 + k).toUInt8]).length = L + 1 := by rw [List.length_append, HL.out]; rfl
            have hlr : (rest.set k (x - 1)).length = R := by rw [List.length_set, HR.out]
            have hneM : gr2 ≠ M := fun e => by
              rcases own_ne hmk20.hr hmk20.hM (by decide) with h1 | h1
              · rw [hrv2] at h1; simp [Value.ownBlock] at h1
              · exact h1 (by rw [hrv2, e]; rfl)
            have hMne : M ≠ gr2 := fun e => hneM e.symm
            rw [hwv2, hlw] at d1
            rw [hrv2, hlr] at d0
            have dx := hr24 k (by rw [List.length_set, HR.out]; omega)
            rw [ints_get _ _ (by rw [List.length_set, HR.out]; omega), List.getElem_set_self] at dx
            have df1 := df 1
            have dfz := hr25 k
            rw [hlw] at hg23
            have hB21 := hmk20.BM
            have hw2 := hmk20
            rw [hwv2, hlw, ← HL.out, hrv2] at hw2
            have hpop := Mk.pop hw2
            have Hrest := Lib.hid ((hpop.setRest k x).drew)
            rw [List.set_set] at Hrest
            have hself : rest.set k x = rest := by
              rw [← Hxx.out]; exact List.set_getElem_self _
            rw [hself] at Hrest
            rw [HL.out] at Hrest
            clear hmk20 hw2 hpop hwv2 hrv2 hg24 hg25 hr24 hr25 df d2 d3
            go_wp2_with fail
            go_region
            have Hat3 : Hid (ExtAt B M n f rest word p o w (k + 1) ((w20.setCell ⟨M, 1, none⟩ (.slice (some ⟨g2, 0, none⟩) L c2)).setCell ⟨gr2, k, none⟩ (.int .i64 x)).drew) :=
              ⟨⟨_, _, _, Hrest.out⟩, (((Hb20.out.setCell (p := ⟨M, 1, none⟩) hB21 _).setCell (p := ⟨gr2, k, none⟩) hr21 _).drew), Ho5.out⟩
            clear Hrest Hb20
            go_wp2
            go_roundw
            case rel => exact ⟨k + 1, by omega, by omega, by go_num, Hat3⟩
            case measure => simp [intOf]; omega
          · have hkb : ((k : Int) != F) = true := by rw [bne_iff_ne]; omega
            have Hnx := Lib.hid (show extTo n f rest word p o (k + 1) = ext n f (rest.set k (x - 1)) (word ++ [(97 + k).toUInt8]) (L + 1) (extTo n f rest word p o k) from by
              rw [Hsucc.out, extStep, if_neg (by rw [HFF.out]; omega), Hgd.out, if_neg hx0]
              rw [if_pos (by rw [HFF.out]; exact .inr hkF), HL.out])
            have Hfit2 := Lib.hid (HFit.out.down k (by rw [HR.out]; exact hlt) (x - 1) ⟨by omega, by omega⟩ (L + 1) ⟨by omega, by omega⟩ (extTo n f rest word p o k) ho5)
            have h18 : Mk (wr.setCell ⟨gr, k, none⟩ (.int .i64 (x - 1))) B M (rest.set k (x - 1)) word (extTo n f rest word p o k) rv wv ov := by
              have h0 := hmk
              rw [hrv, ← HR.out] at h0
              rw [hrv, ← HR.out]
              exact h0.setRest k (x - 1)
            have H18 := Lib.hid h18
            have hbl18 : Below B w (wr.setCell ⟨gr, k, none⟩ (.int .i64 (x - 1))) := hbl.setCell (p := ⟨gr, k, none⟩) hgr1 _
            have Hbl18 := Lib.hid hbl18
            have hsz18 : B ≤ (wr.setCell ⟨gr, k, none⟩ (.int .i64 (x - 1))).heap.size := by have := hbl18.size; omega
            have dfz := hgr5 k
            have Hx0 := Lib.hid hx0
            have Ho5 : Hid ((extTo n f rest word p o (k + 1)).1.length ≤ 5000) := by
              show _ ≤ _
              rw [Hsucc.out]
              exact extStep_len _ _ _ _ _ _ _ ho5
            clear hmk h18 hbl18 hbl hgr5 hrow

            go_upto_region 19 with (fail)
            have e1 : (wr.setCell ⟨gr, k, none⟩ (.int .i64 (x - 1))).cell? ⟨M, 1, none⟩ = some (.slice aw L cw) := by rw [H18.out.cells.2.1, Hwv.out, HL.out]
            have e0 := H18.out.cells.1
            rw [hrv] at e0
            generalize wr.setCell ⟨gr, k, none⟩ (.int .i64 (x - 1)) = w18 at *
            clear d0 d1 dx dfz
            have hu : (97 : Int) + (k : Int) = (((97 + k).toUInt8).toNat : Nat) := by rw [u8_toNat _ (by omega)]; omega
            have Hu := Lib.hid hu
            clear hu
            go_wp2_with (at_builtin; refine wpList_append_new rfl (.tmp 115) (.tmp 119) 22 rfl elByte (.slice aw L cw) 1 [.int .u8 (97 + (k : Int))] rfl rfl (by have := H18.out.hw; rw [Hwv.out, HL.out] at this; exact this) hsz18 rfl ?c1 ?c2 ?c3 ?_)
            case c1 => intro u hu; simp at hu; subst hu; rfl
            case c2 => omega
            case c3 => omega
            intro v' w19 hown19 hg19 _
            obtain ⟨a19, c19, rfl⟩ := own_form hown19
            rw [Hu.out, ← HL.out] at hown19
            rw [← HL.out]
            have hp19 := H18.out.push (ch := (97 + k).toUInt8) hown19 (by rw [Hwv.out, HL.out]; exact grown_alloc_trans hg19)
            rw [Hwv.out, HL.out] at hp19
            rw [HL.out]
            obtain ⟨hp1', hp2', hp3', hp4'⟩ := hp19
            have Hp1 := Lib.hid hp1'
            have Hp4 := Lib.hid (Hbl18.out.trans hp4')
            clear hown19 hg19 hp1' hp4' e0 e1
            go_wp2_with fail
            refine (HIH.out _ B M n _ (L + 1) (rest.set k (x - 1)) (word ++ [(97 + k).toUInt8]) (extTo n f rest word p o k) _ _ _ Hp1.out Hfit2.out (by have := Hp4.out.size; omega) hn (by first | rfl | (push_cast; rfl))).mono ?_
            rintro e w20 ⟨rfl, ⟨rv2, wv2, ov2, hmk20⟩, hb20⟩
            rw [← Hnx.out] at hmk20
            have Hb20 := Lib.hid (Hp4.out.trans hb20)
            clear hb20 hp2' hp3'
            obtain ⟨d0, d1, d2, d3, df⟩ := hmk20.cells
            obtain ⟨g2, c2, hwv2, hg21, hg22, hg23, hg24, hg25⟩ := own_open hmk20.hw (by simp)
            obtain ⟨gr2, cr2, hrv2, hr21, hr22, hr23, hr24, hr25⟩ := own_open hmk20.hr (by rw [List.length_set, HR.out]; omega)
            have hlw : (word ++ [(97 + k).toUInt8]).length = L + 1 := by rw [List.length_append, HL.out]; rfl
            have hlr : (rest.set k (x - 1)).length = R := by rw [List.length_set, HR.out]
            have hneM : gr2 ≠ M := fun e => by
              rcases own_ne hmk20.hr hmk20.hM (by decide) with h1 | h1
              · rw [hrv2] at h1; simp [Value.ownBlock] at h1
              · exact h1 (by rw [hrv2, e]; rfl)
            have hMne : M ≠ gr2 := fun e => hneM e.symm
            rw [hwv2, hlw] at d1
            rw [hrv2, hlr] at d0
            have dx := hr24 k (by rw [List.length_set, HR.out]; omega)
            rw [ints_get _ _ (by rw [List.length_set, HR.out]; omega), List.getElem_set_self] at dx
            have df1 := df 1
            have dfz := hr25 k
            rw [hlw] at hg23
            have hB21 := hmk20.BM
            have hw2 := hmk20
            rw [hwv2, hlw, ← HL.out, hrv2] at hw2
            have hpop := Mk.pop hw2
            have Hrest := Lib.hid ((hpop.setRest k x).drew)
            rw [List.set_set] at Hrest
            have hself : rest.set k x = rest := by
              rw [← Hxx.out]; exact List.set_getElem_self _
            rw [hself] at Hrest
            rw [HL.out] at Hrest
            clear hmk20 hw2 hpop hwv2 hrv2 hg24 hg25 hr24 hr25 df d2 d3
            go_wp2_with fail
            go_region
            have Hat3 : Hid (ExtAt B M n f rest word p o w (k + 1) ((w20.setCell ⟨M, 1, none⟩ (.slice (some ⟨g2, 0, none⟩) L c2)).setCell ⟨gr2, k, none⟩ (.int .i64 x)).drew) :=
              ⟨⟨_, _, _, Hrest.out⟩, (((Hb20.out.setCell (p := ⟨M, 1, none⟩) hB21 _).setCell (p := ⟨gr2, k, none⟩) hr21 _).drew), Ho5.out⟩
            clear Hrest Hb20
            go_wp2
            go_roundw
            case rel => exact ⟨k + 1, by omega, by omega, by go_num, Hat3⟩
            case measure => simp [intOf]; omega

      · obtain rfl : k = R := by omega
        have Hat2 := Lib.hid Hat.out
        clear hmk d1 d2 d3 df hbl ho5 HIH HFit
        obtain ⟨ar, cr, hrv⟩ := own_form hrow
        rw [hrv] at d0
        clear hrow hrv
        go_wp2
        refine bodyPost_end (results_none rfl _ _ _) rfl ?_
        exact ⟨rfl, Hat2.out.1, Hat2.out.2.1⟩
  case neg =>
    have HFF := Lib.hid hF0
    rw [hF0] at hF1 Hat
    clear hF0
    go_enter Try.func39, Try.ntmps39
    go_wp2_with fail
    go_loopw [8] (fun c wr => ∃ k : Nat, 0 ≤ k ∧ k ≤ R ∧ c = .int .i64 k ∧ Hid (ExtAt B M n f rest word p o w k wr)) (fun c _ => R - (intOf c).toNat)
    case atStart => exact ⟨0, Nat.le_refl _, hF1, rfl, Hat⟩
    case round =>
      clear Hat
      obtain ⟨k, hk1, hk2, rfl, Hat⟩ := hrel
      obtain ⟨⟨rv, wv, ov, hmk⟩, hbl, ho5⟩ := Hat.out
      have hrow := hmk.hr
      rw [HR.out] at hrow
      obtain ⟨d0, d1, d2, d3, df⟩ := hmk.cells
      obtain ⟨aw, cw, hwv⟩ := own_form hmk.hw
      have Hwv := Lib.hid hwv
      rw [hwv, HL.out] at d1
      clear hwv
      by_cases hlt : k < R
      · obtain ⟨gr, cr, hrv, hgr1, hgr2, hgr3, hgr4, hgr5⟩ := own_open hrow (by omega)
        rw [hrv] at d0
        have hgM : gr ≠ M := fun e => by
          rcases own_ne hrow hmk.hM (by decide) with h1 | h1
          · rw [hrv] at h1; simp [Value.ownBlock] at h1
          · exact h1 (by rw [hrv, e]; rfl)
        have hMg : M ≠ gr := fun e => hgM e.symm
        have dx := hgr4 k (by omega)
        rw [ints_get _ _ (by rw [HR.out]; exact hlt)] at dx
        obtain ⟨hx1, hx2⟩ := HFit.out.small (rest[k]'(by rw [HR.out]; exact hlt)) (List.getElem_mem _)
        have Hgd := Lib.hid (show rest.getD k 0 = rest[k]'(by rw [HR.out]; exact hlt) from by rw [List.getD_eq_getElem?_getD, List.getElem?_eq_getElem (by rw [HR.out]; exact hlt)]; rfl)
        have Hsucc := Lib.hid (extTo_succ n f rest word p o k)
        clear d2 d3 df hgr4
        generalize hxx : rest[k]'(by rw [HR.out]; exact hlt) = x at *
        have Hxx := Lib.hid hxx
        clear hxx
        by_cases hx0 : x = 0
        · subst hx0
          have Hat2 : Hid (ExtAt B M n f rest word p o w (k + 1) wr) := by
            have e : extTo n f rest word p o (k + 1) = extTo n f rest word p o k := by
              rw [Hsucc.out, extStep]
              by_cases hkF : k < firstOf word p
              · rw [if_pos hkF]
              · rw [if_neg hkF, if_pos Hgd.out]
            exact ⟨⟨rv, wv, ov, by rw [e]; exact hmk⟩, hbl, by rw [e]; exact ho5⟩
          clear hmk hrow hrv hgr5 hbl ho5 Hat HIH HFit Hsucc Hgd Hxx
          go_wp2
          go_roundw
          case rel => exact ⟨k + 1, by omega, by omega, by go_num, Hat2⟩
          case measure => simp [intOf]; omega
        · have hxb : (x == 0) = false := by simpa using hx0
          have Hrv := Lib.hid hrv
          have Hnx := Lib.hid (show extTo n f rest word p o (k + 1) = ext n f (rest.set k (x - 1)) (word ++ [(97 + k).toUInt8]) (L + 1) (extTo n f rest word p o k) from by
            rw [Hsucc.out, extStep, if_neg (by rw [HFF.out]; omega), Hgd.out, if_neg hx0]
            rw [if_pos (by rw [HL.out]; exact .inl (by omega)), HL.out])
          have Hfit2 := Lib.hid (HFit.out.down k (by rw [HR.out]; exact hlt) (x - 1) ⟨by omega, by omega⟩ (L + 1) ⟨by omega, by omega⟩ (extTo n f rest word p o k) ho5)
          have h18 : Mk (wr.setCell ⟨gr, k, none⟩ (.int .i64 (x - 1))) B M (rest.set k (x - 1)) word (extTo n f rest word p o k) rv wv ov := by
            have h0 := hmk
            rw [hrv, ← HR.out] at h0
            rw [hrv, ← HR.out]
            exact h0.setRest k (x - 1)
          have H18 := Lib.hid h18
          have hbl18 : Below B w (wr.setCell ⟨gr, k, none⟩ (.int .i64 (x - 1))) := hbl.setCell (p := ⟨gr, k, none⟩) hgr1 _
          have Hbl18 := Lib.hid hbl18
          have hsz18 : B ≤ (wr.setCell ⟨gr, k, none⟩ (.int .i64 (x - 1))).heap.size := by have := hbl18.size; omega
          have dfz := hgr5 k
          have Hx0 := Lib.hid hx0
          have Ho5 : Hid ((extTo n f rest word p o (k + 1)).1.length ≤ 5000) := by
            show _ ≤ _
            rw [Hsucc.out]
            exact extStep_len _ _ _ _ _ _ _ ho5
          clear hmk h18 hbl18 hbl hgr5 hrow

          go_upto_region 19 with (fail)
          have e1 : (wr.setCell ⟨gr, k, none⟩ (.int .i64 (x - 1))).cell? ⟨M, 1, none⟩ = some (.slice aw L cw) := by rw [H18.out.cells.2.1, Hwv.out, HL.out]
          have e0 := H18.out.cells.1
          rw [hrv] at e0
          generalize wr.setCell ⟨gr, k, none⟩ (.int .i64 (x - 1)) = w18 at *
          clear d0 d1 dx dfz
          have hu : (97 : Int) + (k : Int) = (((97 + k).toUInt8).toNat : Nat) := by rw [u8_toNat _ (by omega)]; omega
          have Hu := Lib.hid hu
          clear hu
          go_wp2_with (at_builtin; refine wpList_append_new rfl (.tmp 115) (.tmp 119) 22 rfl elByte (.slice aw L cw) 1 [.int .u8 (97 + (k : Int))] rfl rfl (by have := H18.out.hw; rw [Hwv.out, HL.out] at this; exact this) hsz18 rfl ?c1 ?c2 ?c3 ?_)
          case c1 => intro u hu; simp at hu; subst hu; rfl
          case c2 => omega
          case c3 => omega
          intro v' w19 hown19 hg19 _
          obtain ⟨a19, c19, rfl⟩ := own_form hown19
          rw [Hu.out, ← HL.out] at hown19
          rw [← HL.out]
          have hp19 := H18.out.push (ch := (97 + k).toUInt8) hown19 (by rw [Hwv.out, HL.out]; exact grown_alloc_trans hg19)
          rw [Hwv.out, HL.out] at hp19
          rw [HL.out]
          obtain ⟨hp1', hp2', hp3', hp4'⟩ := hp19
          have Hp1 := Lib.hid hp1'
          have Hp4 := Lib.hid (Hbl18.out.trans hp4')
          clear hown19 hg19 hp1' hp4' e0 e1
          go_wp2_with fail
          refine (HIH.out _ B M n _ (L + 1) (rest.set k (x - 1)) (word ++ [(97 + k).toUInt8]) (extTo n f rest word p o k) _ _ _ Hp1.out Hfit2.out (by have := Hp4.out.size; omega) hn (by first | rfl | (push_cast; rfl))).mono ?_
          rintro e w20 ⟨rfl, ⟨rv2, wv2, ov2, hmk20⟩, hb20⟩
          rw [← Hnx.out] at hmk20
          have Hb20 := Lib.hid (Hp4.out.trans hb20)
          clear hb20 hp2' hp3'
          obtain ⟨d0, d1, d2, d3, df⟩ := hmk20.cells
          obtain ⟨g2, c2, hwv2, hg21, hg22, hg23, hg24, hg25⟩ := own_open hmk20.hw (by simp)
          obtain ⟨gr2, cr2, hrv2, hr21, hr22, hr23, hr24, hr25⟩ := own_open hmk20.hr (by rw [List.length_set, HR.out]; omega)
          have hlw : (word ++ [(97 + k).toUInt8]).length = L + 1 := by rw [List.length_append, HL.out]; rfl
          have hlr : (rest.set k (x - 1)).length = R := by rw [List.length_set, HR.out]
          have hneM : gr2 ≠ M := fun e => by
            rcases own_ne hmk20.hr hmk20.hM (by decide) with h1 | h1
            · rw [hrv2] at h1; simp [Value.ownBlock] at h1
            · exact h1 (by rw [hrv2, e]; rfl)
          have hMne : M ≠ gr2 := fun e => hneM e.symm
          rw [hwv2, hlw] at d1
          rw [hrv2, hlr] at d0
          have dx := hr24 k (by rw [List.length_set, HR.out]; omega)
          rw [ints_get _ _ (by rw [List.length_set, HR.out]; omega), List.getElem_set_self] at dx
          have df1 := df 1
          have dfz := hr25 k
          rw [hlw] at hg23
          have hB21 := hmk20.BM
          have hw2 := hmk20
          rw [hwv2, hlw, ← HL.out, hrv2] at hw2
          have hpop := Mk.pop hw2
          have Hrest := Lib.hid ((hpop.setRest k x).drew)
          rw [List.set_set] at Hrest
          have hself : rest.set k x = rest := by
            rw [← Hxx.out]; exact List.set_getElem_self _
          rw [hself] at Hrest
          rw [HL.out] at Hrest
          clear hmk20 hw2 hpop hwv2 hrv2 hg24 hg25 hr24 hr25 df d2 d3
          go_wp2_with fail
          go_region
          have Hat3 : Hid (ExtAt B M n f rest word p o w (k + 1) ((w20.setCell ⟨M, 1, none⟩ (.slice (some ⟨g2, 0, none⟩) L c2)).setCell ⟨gr2, k, none⟩ (.int .i64 x)).drew) :=
            ⟨⟨_, _, _, Hrest.out⟩, (((Hb20.out.setCell (p := ⟨M, 1, none⟩) hB21 _).setCell (p := ⟨gr2, k, none⟩) hr21 _).drew), Ho5.out⟩
          clear Hrest Hb20
          go_wp2
          go_roundw
          case rel => exact ⟨k + 1, by omega, by omega, by go_num, Hat3⟩
          case measure => simp [intOf]; omega

      · obtain rfl : k = R := by omega
        have Hat2 := Lib.hid Hat.out
        clear hmk d1 d2 d3 df hbl ho5 HIH HFit
        obtain ⟨ar, cr, hrv⟩ := own_form hrow
        rw [hrv] at d0
        clear hrow hrv
        go_wp2
        refine bodyPost_end (results_none rfl _ _ _) rfl ?_
        exact ⟨rfl, Hat2.out.1, Hat2.out.2.1⟩

theorem extend_any : ∀ f, ExtSaid f
  | 0 => extend_zero
  | f + 1 => extend_succ f (extend_any f)

end Go.Proofs.Ytgijighdalaemaa
