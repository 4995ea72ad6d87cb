/- Walks of both functions that count letters. -/
import Derived.Test.YtgijighdalaemaaWordF
namespace Go.Proofs.Ytgijighdalaemaa
open Go.RowKit

theorem elInt : ElemOf Try.prog 39 3 (.int .i64 0) 1 8 := ⟨Try.underlying39, info_parts (by kernel_rfl), rfl, by decide⟩

/-- The list with places up to k, and one more at k. -/
def bump (l : List Int) (k : Nat) : List Int :=
  let m := l ++ List.replicate (k + 1 - l.length) 0
  m.set k (m.getD k 0 + 1)

/-- The numbers of letters. -/
def cnt (l : List UInt8) : List Int := l.foldl (fun o c => bump o (c.toNat - 97)) []

theorem bump_length (l : List Int) (k : Nat) : (bump l k).length = max l.length (k + 1) := by
  simp [bump]; omega

theorem cnt_snoc (l : List UInt8) (c : UInt8) : cnt (l ++ [c]) = bump (cnt l) (c.toNat - 97) := by simp [cnt]

/-- All counts up to a bound. -/
def Small (m : Int) (l : List Int) : Prop := ∀ x ∈ l, 0 ≤ x ∧ x ≤ m

theorem getD_small {m : Int} (hm : 0 ≤ m) {l : List Int} (h : Small m l) (k : Nat) : 0 ≤ l.getD k 0 ∧ l.getD k 0 ≤ m := by
  rw [List.getD_eq_getElem?_getD]
  cases hk : l[k]? with
  | none => simp; exact hm
  | some x => exact h x (List.mem_of_getElem? hk)

theorem bump_small {m : Int} (hm : 0 ≤ m) {l : List Int} (h : Small m l) (k : Nat) : Small (m + 1) (bump l k) := by
  have h2 : Small m (l ++ List.replicate (k + 1 - l.length) 0) := by
    intro x hx
    rcases List.mem_append.1 hx with hx | hx
    · exact h x hx
    · have := List.eq_of_mem_replicate hx; subst this; exact ⟨Int.le_refl _, hm⟩
  have h3 := getD_small hm h2 k
  intro x hx
  rcases List.mem_or_eq_of_mem_set hx with hx | hx
  · have := h2 x hx; omega
  · rw [hx]; omega

theorem snoc_ind {α : Type} {p : List α → Prop} (h0 : p []) (h1 : ∀ l c, p l → p (l ++ [c])) (l : List α) : p l := by
  have : ∀ n, ∀ l : List α, l.length = n → p l := by
    intro n
    induction n with
    | zero => intro l hl; rw [List.eq_nil_of_length_eq_zero hl]; exact h0
    | succ n ih =>
      intro l hl
      have hne : l ≠ [] := by intro e; rw [e] at hl; simp at hl
      rw [← List.dropLast_concat_getLast hne]
      exact h1 _ _ (ih _ (by simp; omega))
  exact this _ l rfl

theorem cnt_small (l : List UInt8) : Small l.length (cnt l) := by
  refine snoc_ind (p := fun l : List UInt8 => Small l.length (cnt l)) ?_ (fun l c ih => ?_) l
  · intro x hx; simp [cnt] at hx
  · rw [cnt_snoc]
    have := bump_small (by omega) ih (c.toNat - 97)
    simpa using this

theorem cnt_length (l : List UInt8) (h : l.any badB = false) : (cnt l).length ≤ 26 := by
  revert h
  refine snoc_ind (p := fun l => l.any badB = false → (cnt l).length ≤ 26) ?_ (fun l c ih => ?_) l
  · intro _; simp [cnt]
  · intro h
    rw [cnt_snoc, bump_length]
    simp only [List.any_append, Bool.or_eq_false_iff] at h
    have h1 := ih h.1
    have h2 : badB c = false := by simpa using h.2
    simp [badB] at h2
    omega

/-- The state of the count: a list of its own. -/
def CntAt (w0 : World) (l : List Int) (v : Value) (w : World) : Prop := w.ownsRow w0.heap.size 3 1 v l.length (ints l) ∧ Below w0.heap.size w0 w

theorem chk_letters (s : ByteArray) (h : chk (lb s) = 0) : (lb s).any badB = false := by
  obtain ⟨h0, h1⟩ := chk_zero s h
  cases ha : (lb s).any badB with
  | false => rfl
  | true =>
    rw [List.any_eq_true] at ha
    obtain ⟨x, hx, hb⟩ := ha
    obtain ⟨i, hi, rfl⟩ := List.getElem_of_mem hx
    have hi' : i < s.size := by rw [← lb_length]; exact hi
    rw [lb_getElem s i hi'] at hb
    rw [chk_bad s i hi' h1 hb] at h
    omega

theorem lb_take_succ (s : ByteArray) (k : Nat) (h : k < s.size) : (lb s).take (k + 1) = (lb s).take k ++ [s[k]] := by
  rw [List.take_succ_eq_append_getElem (by rw [lb_length]; exact h), lb_getElem s k h]

theorem letter_range (s : ByteArray) (h : (lb s).any badB = false) (k : Nat) (hk : k < s.size) : 97 ≤ s[k].toNat ∧ s[k].toNat ≤ 122 := by
  rw [List.any_eq_false] at h
  have := h s[k] (by rw [← lb_getElem s k hk]; exact List.getElem_mem _)
  simp [badB] at this
  omega

/-- A list of numbers that the call owns, as a slice. -/
def OwnInts (w : World) (B : Nat) (a : Option Addr) (n c : Nat) (l : List Int) : Prop := w.ownsRow B 3 1 (.slice a n c) n (ints l)

theorem OwnInts.len {w : World} {B n c : Nat} {a : Option Addr} {l : List Int} (h : OwnInts w B a n c l) : l.length = n := by
  have := h.1; simp [ints_length] at this; exact this

theorem OwnInts.nil (w : World) (B : Nat) : OwnInts w B none 0 0 [] := World.ownsRow_nil ..

theorem OwnInts.open {w : World} {B n c : Nat} {a : Option Addr} {l : List Int} (h : OwnInts w B a n c l) (hn : 0 < n) :
    ∃ g, a = some ⟨g, 0, none⟩ ∧ B ≤ g ∧ g < w.heap.size ∧ n ≤ c ∧ (∀ j (hj : j < l.length), w.cell? ⟨g, j, none⟩ = some (.int .i64 l[j])) ∧ (∀ j, w.frozen? ⟨g, j, none⟩ = false) := by
  have hl := h.len
  obtain ⟨g, cap, hv, h1, h2, h3, h4, h5⟩ := own_open h hn
  simp only [Value.slice.injEq] at hv
  obtain ⟨rfl, -, rfl⟩ := hv
  exact ⟨g, rfl, h1, h2, h3, fun j hj => by rw [h4 j (by omega), ints_get l j hj], h5⟩

theorem OwnInts.store {w : World} {B n c g : Nat} {l : List Int} (h : OwnInts w B (some ⟨g, 0, none⟩) n c l) (j : Nat) (x : Int) :
    OwnInts (w.setCell ⟨g, j, none⟩ (.int .i64 x)) B (some ⟨g, 0, none⟩) n c (l.set j x) := by
  have := (World.ownsRow.stored h j (.int .i64 x)).1
  rw [ints_set] at this
  exact this

theorem own_form {w : World} {base e size n : Nat} {v : Value} {xs : List Value} (h : w.ownsRow base e size v n xs) : ∃ a c, v = .slice a n c := by
  rcases h.2 with ⟨rfl, h0⟩ | ⟨g, cap, cur, rfl, rest⟩
  · exact ⟨none, 0, by rw [h0]⟩
  · exact ⟨_, _, rfl⟩

theorem bump_at (l : List Int) (K m : Nat) (h : l.length + m = K + 1 ∨ (m = 0 ∧ K < l.length)) : bump l K = (l ++ List.replicate m 0).set K ((l ++ List.replicate m 0).getD K 0 + 1) := by
  have : m = K + 1 - l.length := by omega
  subst this; rfl

set_option maxHeartbeats 1000000 in
theorem lcounts_any (s : ByteArray) (w : World) (hv : chk (lb s) = 0) :
    Calls Try.prog 28 #[.string s] w fun e w' => ∃ v, e = .returned v ∧ CntAt w (cnt (lb s)) v w' := by
  obtain ⟨h0, h1⟩ := chk_zero s hv
  have Hl := Lib.hid (chk_letters s hv)
  clear hv
  go_enter Try.func28, Try.ntmps28
  go_wp2_with fail
  go_loopw [3, 4] (fun v i wr => ∃ (k n c : Nat) (a : Option Addr), k ≤ s.size ∧ i = .int .i64 k ∧ v = .slice a n c ∧ n ≤ 26 ∧ Hid (OwnInts wr w.heap.size a n c (cnt ((lb s).take k))) ∧ Below w.heap.size w wr) (fun _ i _ => s.size - (intOf i).toNat)
  case atStart => exact ⟨0, 0, 0, none, Nat.zero_le _, rfl, rfl, Nat.zero_le _, OwnInts.nil _ _, Below.refl _ _⟩
  case round =>
    obtain ⟨k, n, c, a, hk, rfl, rfl, hn26, hown, hbl⟩ := hrel
    by_cases hlt : k < s.size
    · obtain ⟨hr1, hr2⟩ := letter_range s Hl.out k hlt
      have hsn := cnt_snoc ((lb s).take k) s[k]
      rw [← lb_take_succ s k hlt] at hsn
      obtain ⟨K, hK⟩ : ∃ K : Nat, (s[k].toNat : Int) - 97 = K := ⟨s[k].toNat - 97, by omega⟩
      rw [show s[k].toNat - 97 = K by omega] at hsn
      have Hsn := Lib.hid hsn
      have hK2 : K ≤ 25 := by omega
      have Hsm := Lib.hid (cnt_small ((lb s).take k))
      have Hlt : ((lb s).take k).length ≤ 60 := by rw [List.length_take, lb_length]; omega
      clear hsn
      have hn := hown.out.len
      generalize cnt (List.take k (lb s)) = l at *
      generalize (List.take k (lb s)).length = t at *
      have Hn := Lib.hid hn
      clear hn
      obtain ⟨wo, rfl⟩ : ∃ wo : World, wo = wr := ⟨_, rfl⟩
      go_wp2_with fail
      go_loopw [3] (fun v wr => ∃ (m n' c : Nat) (a : Option Addr), v = .slice a n' c ∧ n' ≤ 26 ∧ Hid (OwnInts wr w.heap.size a n' c (l ++ List.replicate m 0) ∧ (m = 0 ∨ n' ≤ K + 1)) ∧ Below w.heap.size w wr) (fun v _ => K + 1 - (match v with | .slice _ n _ => n | _ => 0))
      case atStart => exact ⟨0, n, c, a, rfl, hn26, ⟨by simpa using hown.out, .inl rfl⟩, hbl⟩
      case round =>
        clear hown hbl
        obtain ⟨m, n', c, a, rfl, hn', hown, hbl⟩ := hrel
        by_cases hle : n' ≤ K
        · go_wp2_with (at_builtin; refine wpList_append_new rfl (.tmp 19) (.tmp 20) _ rfl elInt _ 1 [.int .i64 0] rfl rfl hown.out.1 hbl.size rfl ?c1 ?c2 ?c3 ?_)
          case c1 => intro u hu; simp at hu; subst hu; rfl
          case c2 => omega
          case c3 => omega
          intro v' w1 hown1 hg1 _
          obtain ⟨a1, c1, rfl⟩ := own_form hown1
          have hbl1 := (hbl.alloc hbl.size _).grown hg1 (by have := hbl.size; simp; omega) (fun k hk => (hown.out.1.lt k hk).1)
          have hown2 : Hid (OwnInts w1 w.heap.size a1 (n' + 1) c1 (l ++ List.replicate (m + 1) 0) ∧ (m + 1 = 0 ∨ n' + 1 ≤ K + 1)) := by
            refine ⟨?_, .inr (by omega)⟩
            unfold OwnInts
            rw [List.replicate_succ', ← List.append_assoc, ints_append]
            exact hown1
          clear hown1 hg1 hown hbl
          go_wp2
          go_roundw
          case rel => exact ⟨m + 1, n' + 1, c1, a1, rfl, by omega, hown2, hbl1⟩
          case measure => simp; omega
        · have hlen := hown.out.1.len
          have hm := hown.out.2
          simp only [List.length_append, List.length_replicate] at hlen
          obtain ⟨g, rfl, hg1, hg2, hg3, hg4, hg5⟩ := hown.out.1.open (by omega)
          have hc := hg4 K (by simp; omega)
          have hf := hg5 K
          have hb := bump_at l K m (by have := Hn.out; omega)
          have hsto := hown.out.1.store K ((l ++ List.replicate m 0).getD K 0 + 1)
          rw [← hb] at hsto
          have hsm : Small t (l ++ List.replicate m 0) := by
            intro x hx
            rcases List.mem_append.1 hx with hx | hx
            · exact Hsm.out x hx
            · have := List.eq_of_mem_replicate hx; subst this; omega
          have hx := getD_small (by omega) hsm K
          have he : (l ++ List.replicate m 0)[K]'(by simp; omega) = (l ++ List.replicate m 0).getD K 0 := by
            rw [List.getD_eq_getElem?_getD, List.getElem?_eq_getElem (by simp; omega)]; rfl
          rw [he] at hc
          obtain ⟨hx1, hx2⟩ := hx
          have Hsto := Lib.hid hsto
          have Hlen := Lib.hid hlen
          clear hsm hown hlen hm hb he hsto hg4 hg5
          generalize (l ++ List.replicate m 0).getD K 0 = x at *
          go_wp2
          go_roundw
          case rel => exact ⟨k + 1, n', c, _, by omega, by go_num, rfl, hn', by rw [Hsn.out]; exact Hsto.out, hbl.setCell hg1 _⟩
          case measure => simp [intOf]; omega
    · obtain rfl : k = s.size := by omega
      go_wp2
      go_ret
      refine ⟨_, rfl, ?_, hbl⟩
      have := hown.out
      rw [List.take_of_length_le (by rw [lb_length]; omega)] at this
      rw [this.len]; exact this

end Go.Proofs.Ytgijighdalaemaa
