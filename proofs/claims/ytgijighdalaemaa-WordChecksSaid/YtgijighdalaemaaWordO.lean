/- The walk of word.maker.extend: how the maker's memory turns. -/
import Derived.Test.YtgijighdalaemaaWordN
namespace Go.Proofs.Ytgijighdalaemaa
open Go.RowKit

section
variable {w : World} {B M : Nat} {rest : List Int} {word : List UInt8} {o : Col} {rv wv ov : Value}

/-- Rows with other elements lie in other blocks. -/
theorem rows_apart {e1 e2 s1 s2 n1 n2 : Nat} {v1 v2 : Value} {x1 x2 : List Value} (h1 : w.ownsRow B e1 s1 v1 n1 x1) (h2 : w.ownsRow B e2 s2 v2 n2 x2) (hne : e1 ≠ e2) :
    v1.ownBlock = none ∨ v1.ownBlock ≠ v2.ownBlock := by
  rcases h1.2 with ⟨rfl, _⟩ | ⟨g, cap, cur, rfl, _, hg, _⟩
  · exact .inl rfl
  · refine .inr (fun e => ?_)
    rcases own_ne h2 hg hne with h | h
    · rw [h] at e; cases e
    · exact h e.symm

theorem grown_store (b j : Nat) (v : Value) : w.grownBy (w.setCell ⟨b, j, none⟩ v) (some b) :=
  ⟨rfl, rfl, rfl, by simp [World.setCell], fun k _ hk => Below.heap_setCell _ _ _ _ (fun e => hk (by simp [e]))⟩

/-- A number of the list is written. -/
theorem Mk.setRest {g c : Nat} (h : Mk w B M rest word o (.slice (some ⟨g, 0, none⟩) rest.length c) wv ov) (j : Nat) (x : Int) :
    Mk (w.setCell ⟨g, j, none⟩ (.int .i64 x)) B M (rest.set j x) word o (.slice (some ⟨g, 0, none⟩) rest.length c) wv ov := by
  have hg := grown_store (w := w) g j (.int .i64 x)
  have hMg : M ≠ g := fun e => by
    rcases own_ne h.hr h.hM (by decide) with h1 | h1
    · simp [Value.ownBlock] at h1
    · exact h1 (by rw [e]; rfl)
  refine ⟨?_, h.BM, ?_, h.hw.kept hg ?_, h.ho.kept hg ?_⟩
  · rw [Below.heap_setCell _ _ _ _ hMg]; exact h.hM
  · have := (World.ownsRow.stored h.hr j (.int .i64 x)).1
    rw [ints_set] at this
    simpa using this
  · exact rows_apart h.hw h.hr (by decide)
  · exact rows_apart h.ho h.hr (by decide)

/-- A letter has been put behind the word, and the new slice is stored. -/
theorem Mk.push {ch : UInt8} {w' : World} {a : Option Addr} {c : Nat} (h : Mk w B M rest word o rv wv ov)
    (hown : w'.ownsRow B 5 1 (.slice a (word.length + 1) c) (word.length + 1) (Lib.byteCells word ++ [.int .u8 ch.toNat])) (hg : w.grownBy w' wv.ownBlock) :
    Mk (w'.setCell ⟨M, 1, none⟩ (.slice a (word.length + 1) c)) B M rest (word ++ [ch]) o rv (.slice a (word.length + 1) c) ov ∧
    w'.cell? ⟨M, 1, none⟩ = some wv ∧ w'.frozen? ⟨M, 1, none⟩ = false ∧ Below B w (w'.setCell ⟨M, 1, none⟩ (.slice a (word.length + 1) c)) := by
  have hlt : M < w.heap.size := (Array.getElem?_eq_some_iff.1 h.hM).1
  have hM' : w'.heap[M]? = some (.cells #[rv, wv, ov, .bool o.2] 83 (0, 0)) := by
    rw [hg.block M hlt (fun e => by
      rcases own_ne h.hw h.hM (by decide) with h1 | h1
      · rw [h1] at e; cases e
      · exact h1 e.symm)]
    exact h.hM
  have hb := grown_store (w := w') M 1 (.slice a (word.length + 1) c)
  have hr' := h.hr.kept hg (rows_apart h.hr h.hw (by decide))
  have ho' := h.ho.kept hg (rows_apart h.ho h.hw (by decide))
  refine ⟨⟨heap_setCell_same w' M 1 _ _ _ hM', h.BM, hr'.kept hb (own_ne hr' hM' (by decide)), ?_, ho'.kept hb (own_ne ho' hM' (by decide))⟩, ?_, frozen_of_row _ _ _ _ _ hM', ?_⟩
  · have := hown.kept hb (own_ne hown hM' (by decide))
    rw [byteCells_snoc, List.length_append]
    exact this
  · rw [cell_of_row _ _ _ _ _ _ hM']; rfl
  · refine Below.setCell ⟨hg.os, hg.tape, hg.output, hg.size, fun k hk => hg.block k (by have := h.BM; omega) (fun e => ?_)⟩ (p := ⟨M, 1, none⟩) h.BM _
    have := (h.hw.lt k e.symm).1
    omega

/-- The last letter is taken away again. -/
theorem Mk.pop {ch : UInt8} {a : Option Addr} {c : Nat} (h : Mk w B M rest (word ++ [ch]) o rv (.slice a (word.length + 1) c) ov) :
    Mk (w.setCell ⟨M, 1, none⟩ (.slice a word.length c)) B M rest word o rv (.slice a word.length c) ov := by
  have hb := grown_store (w := w) M 1 (.slice a word.length c)
  refine ⟨heap_setCell_same w M 1 _ _ _ h.hM, h.BM, h.hr.kept hb (own_ne h.hr h.hM (by decide)), ?_, h.ho.kept hb (own_ne h.ho h.hM (by decide))⟩
  have h2 : w.ownsRow B 5 1 (.slice a word.length c) word.length (Lib.byteCells word) := by
    refine ⟨by simp [byteCells_length], ?_⟩
    rcases h.hw.2 with ⟨h0, _⟩ | ⟨g, cap, cur, hv, h1, h2, h3, h4, h5, h6⟩
    · simp at h0
    · simp only [Value.slice.injEq] at hv
      obtain ⟨rfl, -, rfl⟩ := hv
      refine .inr ⟨g, c, cur, rfl, h1, h2, by simp at h3; omega, h4, h5, ?_⟩
      rw [byteCells_snoc] at h6
      have := congrArg (List.take word.length) h6
      rw [List.take_take, List.take_left' (byteCells_length word)] at this
      simpa using this
  exact h2.kept hb (own_ne h2 h.hM (by decide))

theorem Mk.drewN (h : Mk w B M rest word o rv wv ov) (n : Nat) : Mk (w.drewN n) B M rest word o rv wv ov := ⟨h.hM, h.BM, h.hr, h.hw, h.ho⟩
theorem Mk.drew (h : Mk w B M rest word o rv wv ov) : Mk w.drew B M rest word o rv wv ov := ⟨h.hM, h.BM, h.hr, h.hw, h.ho⟩
end

theorem leaf_len (n : Nat) (word : List UInt8) (p : Nat) (o : Col) (h : o.1.length ≤ 5000) : (leaf n word p o).1.length ≤ 5000 := by
  unfold leaf
  split
  · split
    · exact h
    · simp; omega
  · exact h

theorem foldl_len (g : Col → Nat → Col) (hg : ∀ o c, o.1.length ≤ 5000 → (g o c).1.length ≤ 5000) : ∀ (l : List Nat) (o : Col), o.1.length ≤ 5000 → (l.foldl g o).1.length ≤ 5000
  | [], o, h => h
  | c :: l, o, h => foldl_len g hg l _ (hg o c h)

theorem ext_len (n : Nat) : ∀ (f : Nat) (rest : List Int) (word : List UInt8) (p : Nat) (o : Col), o.1.length ≤ 5000 → (ext n f rest word p o).1.length ≤ 5000
  | 0, rest, word, p, o, h => by
    simp only [ext]; split
    · exact h
    · exact leaf_len n word p o h
  | f + 1, rest, word, p, o, h => by
    simp only [ext]; split
    · exact h
    · refine foldl_len _ (fun o c h => ?_) _ _ h
      split
      · exact h
      · split
        · exact h
        · exact ext_len n f _ _ _ _ h

theorem extStep_len (n f : Nat) (rest : List Int) (word : List UInt8) (p : Nat) (o : Col) (c : Nat) (h : o.1.length ≤ 5000) : (extStep n f rest word p o c).1.length ≤ 5000 := by
  unfold extStep
  split
  · exact h
  · split
    · exact h
    · exact ext_len n f _ _ _ _ h

/-- The contract of extend, at some depth. -/
def ExtSaid (f : Nat) : Prop := ∀ (w : World) (B M n : Nat) (q : Int) (p : Nat) (rest : List Int) (word : List UInt8) (o : Col) (rv wv ov : Value),
  Mk w B M rest word o rv wv ov → Fit n f rest word p o → B ≤ w.heap.size → 0 < n → q = p →
    Calls Try.prog 39 #[.pointer (some ⟨M, 0, none⟩), .int .i64 n, .int .i64 q] w (ExtOut B M rest word (ext n f rest word p o) w)

theorem extend_zero : ExtSaid 0 := by
  intro w B M n q p rest word o rv wv ov h fit hB hn hq
  subst hq
  cases hf : o.2 with
  | true => rw [ext_full _ _ _ _ _ _ hf]; exact extend_full w B M n p rest word o rv wv ov h hf
  | false =>
    have hl : word.length = n := by have := fit.len; omega
    simp only [ext, hf, Bool.false_eq_true, if_false, leaf]
    by_cases hp : n % p = 0
    · rw [if_pos hp]
      by_cases ho : o.1.length = 5000
      · rw [if_pos ho]; exact extend_leaf_stop w B M n p rest word o rv wv ov h hf hl fit.n60 fit.p1 hp ho
      · rw [if_neg ho]
        have := extend_leaf_put w B M n p rest word o rv wv ov h hf hl hn fit.n60 fit.p1 hp (by have := fit.o5; omega)
        rw [hf] at this; exact this
    · rw [if_neg hp]; exact extend_leaf_no w B M n p rest word o rv wv ov h hf hl fit.n60 fit.p1 hp

end Go.Proofs.Ytgijighdalaemaa
