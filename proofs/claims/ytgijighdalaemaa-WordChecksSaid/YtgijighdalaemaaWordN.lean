/- The walk of word.maker.extend. -/
import Derived.Test.YtgijighdalaemaaWordM
import Derived.Deep.RegionLaw
import Derived.RegionTactic
namespace Go.Proofs.Ytgijighdalaemaa
open Go.RowKit

/-- Texts as cells. -/
def strs (l : List (List UInt8)) : List Value := l.map fun s => .string (bs s)
theorem strs_length (l : List (List UInt8)) : (strs l).length = l.length := by simp [strs]
theorem strs_get (l : List (List UInt8)) (j : Nat) (h : j < l.length) : (strs l)[j]? = some (.string (bs l[j])) := by simp [strs, h]
theorem strs_append (l m : List (List UInt8)) : strs (l ++ m) = strs l ++ strs m := by simp [strs]

theorem elStr : ElemOf Try.prog 40 9 (.string ⟨#[]⟩) 1 16 := ⟨Try.underlying40, info_parts (by kernel_rfl), rfl, by decide⟩

/-- The least letter that goes on from a word with a period. -/
def firstOf (word : List UInt8) (p : Nat) : Nat := if p ≤ word.length then (word.getD (word.length - p) 0).toNat - 97 else 0

/-- What the search collects. -/
abbrev Col := List (List UInt8) × Bool

def leaf (n : Nat) (word : List UInt8) (p : Nat) (o : Col) : Col :=
  if n % p = 0 then (if o.1.length = 5000 then (o.1, true) else (o.1 ++ [word], o.2)) else o

def ext (n : Nat) : Nat → List Int → List UInt8 → Nat → Col → Col
  | 0, _, word, p, o => if o.2 then o else leaf n word p o
  | f + 1, rest, word, p, o => if o.2 then o else
    (List.range rest.length).foldl (fun o c => if c < firstOf word p then o else if rest.getD c 0 = 0 then o else
      ext n f (rest.set c (rest.getD c 0 - 1)) (word ++ [(97 + c).toUInt8]) (if word.length < p ∨ c ≠ firstOf word p then word.length + 1 else p) o) o

/-- One letter more. -/
def extStep (n f : Nat) (rest : List Int) (word : List UInt8) (p : Nat) (o : Col) (c : Nat) : Col :=
  if c < firstOf word p then o else if rest.getD c 0 = 0 then o else
    ext n f (rest.set c (rest.getD c 0 - 1)) (word ++ [(97 + c).toUInt8]) (if word.length < p ∨ c ≠ firstOf word p then word.length + 1 else p) o

def extTo (n f : Nat) (rest : List Int) (word : List UInt8) (p : Nat) (o : Col) (k : Nat) : Col := (List.range k).foldl (extStep n f rest word p) o

theorem extTo_succ (n f : Nat) (rest : List Int) (word : List UInt8) (p : Nat) (o : Col) (k : Nat) :
    extTo n f rest word p o (k + 1) = extStep n f rest word p (extTo n f rest word p o k) k := by simp [extTo, List.range_succ]
theorem extTo_first (n f : Nat) (rest : List Int) (word : List UInt8) (p : Nat) (o : Col) (k : Nat) (h : k ≤ firstOf word p) : extTo n f rest word p o k = o := by
  induction k with
  | zero => rfl
  | succ k ih => rw [extTo_succ, ih (by omega), extStep, if_pos (by omega)]
theorem ext_succ (n f : Nat) (rest : List Int) (word : List UInt8) (p : Nat) (o : Col) (h : o.2 = false) : ext n (f + 1) rest word p o = extTo n f rest word p o rest.length := by
  simp only [ext, h]; rfl
theorem ext_full (n f : Nat) (rest : List Int) (word : List UInt8) (p : Nat) (o : Col) (h : o.2 = true) : ext n f rest word p o = o := by
  cases f <;> simp [ext, h]

/-- The maker in memory. -/
structure Mk (w : World) (B M : Nat) (rest : List Int) (word : List UInt8) (o : Col) (rv wv ov : Value) : Prop where
  hM : w.heap[M]? = some (.cells #[rv, wv, ov, .bool o.2] 83 (0, 0))
  BM : B ≤ M
  hr : w.ownsRow B 3 1 rv rest.length (ints rest)
  hw : w.ownsRow B 5 1 wv word.length (Lib.byteCells word)
  ho : w.ownsRow B 9 1 ov o.1.length (strs o.1)

theorem own_ne {w : World} {B e size n : Nat} {v : Value} {xs : List Value} (h : w.ownsRow B e size v n xs) {M : Nat} {cs : Array Value} {T : TypeId} {fr : Nat × Nat} (hM : w.heap[M]? = some (.cells cs T fr)) (hT : T ≠ e) :
    v.ownBlock = none ∨ v.ownBlock ≠ some M := by
  rcases h.2 with ⟨rfl, _⟩ | ⟨g, cap, cur, rfl, _, hg, _⟩
  · exact .inl rfl
  · refine .inr (fun h => ?_)
    simp only [Value.ownBlock, Option.some.injEq] at h
    subst h
    rw [hg] at hM
    simp only [Option.some.injEq, Obj.cells.injEq] at hM
    exact hT hM.2.1.symm

/-- What is right of a search. -/
structure Fit (n fuel : Nat) (rest : List Int) (word : List UInt8) (p : Nat) (o : Col) : Prop where
  n60 : n ≤ 60
  len : word.length + fuel = n
  p1 : 1 ≤ p
  p2 : p ≤ 61
  r26 : rest.length ≤ 26
  small : Small 61 rest
  letters : ∀ x ∈ word, 97 ≤ x.toNat ∧ x.toNat < 97 + rest.length
  o5 : o.1.length ≤ 5000

/-- What extend leaves. -/
def ExtOut (B M : Nat) (rest : List Int) (word : List UInt8) (o : Col) (w : World) (e : Ending) (w' : World) : Prop :=
  e = .returned (.tuple #[]) ∧ (∃ rv wv ov, Mk w' B M rest word o rv wv ov) ∧ Below B w w'

set_option maxHeartbeats 1000000 in
theorem extend_full (w : World) (B M n p : Nat) (rest : List Int) (word : List UInt8) (o : Col) (rv wv ov : Value) (h : Mk w B M rest word o rv wv ov) (hf : o.2 = true) :
    Calls Try.prog 39 #[.pointer (some ⟨M, 0, none⟩), .int .i64 n, .int .i64 p] w (ExtOut B M rest word o w) := by
  have H := Lib.hid h
  have c3 : w.cell? ⟨M, 3, none⟩ = some (.bool true) := by rw [cell_of_row _ _ _ _ _ _ h.hM, ← hf]; rfl
  clear h hf
  go_enter Try.func39, Try.ntmps39
  go_wp2
  refine bodyPost_ret (results_none rfl _ _ _) rfl ?_
  exact ⟨rfl, ⟨_, _, _, H.out⟩, Below.refl _ _⟩


/-- The cells of the maker's own block. -/
theorem Mk.cells {w : World} {B M : Nat} {rest : List Int} {word : List UInt8} {o : Col} {rv wv ov : Value} (h : Mk w B M rest word o rv wv ov) :
    w.cell? ⟨M, 0, none⟩ = some rv ∧ w.cell? ⟨M, 1, none⟩ = some wv ∧ w.cell? ⟨M, 2, none⟩ = some ov ∧ w.cell? ⟨M, 3, none⟩ = some (.bool o.2) ∧ ∀ j, w.frozen? ⟨M, j, none⟩ = false := by
  refine ⟨?_, ?_, ?_, ?_, fun j => frozen_of_row _ _ j _ _ h.hM⟩ <;> rw [cell_of_row _ _ _ _ _ _ h.hM] <;> rfl

set_option maxHeartbeats 1000000 in
theorem extend_leaf_no (w : World) (B M n p : Nat) (rest : List Int) (word : List UInt8) (o : Col) (rv wv ov : Value) (h : Mk w B M rest word o rv wv ov) (hf : o.2 = false)
    (hl : word.length = n) (hn : n ≤ 60) (hp1 : 1 ≤ p) (hp : n % p ≠ 0) :
    Calls Try.prog 39 #[.pointer (some ⟨M, 0, none⟩), .int .i64 n, .int .i64 p] w (ExtOut B M rest word o w) := by
  obtain ⟨c0, c1, c2, c3, cf⟩ := h.cells
  rw [hf] at c3
  obtain ⟨a, c, hwv⟩ := own_form h.hw
  rw [hwv, hl] at c1
  have H := Lib.hid h
  have hd : ((n : Int) % (p : Int) == 0) = false := by rw [beq_eq_false_iff_ne]; omega
  clear h hf hwv hl hp c0 c2 cf
  go_enter Try.func39, Try.ntmps39
  go_wp2
  refine bodyPost_ret (results_none rfl _ _ _) rfl ?_
  exact ⟨rfl, ⟨_, _, _, H.out⟩, Below.refl _ _⟩

set_option maxHeartbeats 1000000 in
theorem extend_leaf_stop (w : World) (B M n p : Nat) (rest : List Int) (word : List UInt8) (o : Col) (rv wv ov : Value) (h : Mk w B M rest word o rv wv ov) (hf : o.2 = false)
    (hl : word.length = n) (hn : n ≤ 60) (hp1 : 1 ≤ p) (hp : n % p = 0) (ho : o.1.length = 5000) :
    Calls Try.prog 39 #[.pointer (some ⟨M, 0, none⟩), .int .i64 n, .int .i64 p] w (ExtOut B M rest word (o.1, true) w) := by
  obtain ⟨c0, c1, c2, c3, cf⟩ := h.cells
  rw [hf] at c3
  obtain ⟨a, c, hwv⟩ := own_form h.hw
  rw [hwv, hl] at c1
  obtain ⟨a2, cc2, hov⟩ := own_form h.ho
  rw [hov, ho] at c2
  have cf3 := cf 3
  have hd : ((n : Int) % (p : Int) == 0) = true := by rw [beq_iff_eq]; omega
  have H := Lib.hid h
  clear h hf hwv hov hl hp ho c0 cf
  go_enter Try.func39, Try.ntmps39
  go_wp2
  refine bodyPost_ret (results_none rfl _ _ _) rfl ?_
  have hM2 := heap_setCell_same w M 3 _ _ (.bool true) H.out.hM
  have hb : w.grownBy (w.setCell ⟨M, 3, none⟩ (.bool true)) (some M) := ⟨rfl, rfl, rfl, by simp [World.setCell], fun k _ hk => Below.heap_setCell _ _ _ _ (fun e => hk (by simp [e]))⟩
  refine ⟨rfl, ⟨rv, wv, ov, hM2, H.out.BM, H.out.hr.kept hb ?_, H.out.hw.kept hb ?_, H.out.ho.kept hb ?_⟩, (Below.refl _ _).setCell (p := ⟨M, 3, none⟩) H.out.BM _⟩
  · exact own_ne H.out.hr H.out.hM (by decide)
  · exact own_ne H.out.hw H.out.hM (by decide)
  · exact own_ne H.out.ho H.out.hM (by decide)

/-- The word is put on the list: the append and the store behind it. -/
theorem step_put {ops : Array Oper} {oo : Oper} {a : Act} {w : World} {K : Act → World → Prop} {Q : Exit → Act → World → Prop} {F : Prop}
    (hg : oo.guard = none) (s x : Operand) (hop : oo.op = .call { callee := .builtin .append, args := #[s, x], argTypes := #[40, 40] })
    {B M : Nat} {rest : List Int} {word : List UInt8} {o : Col} {rv wv ov : Value} (h : Mk w B M rest word o rv wv ov) (a2 : Option Addr) (cc2 : Nat) (hov : ov = .slice a2 o.1.length cc2)
    (hs : a.eval s = .slice a2 o.1.length cc2) (hx : a.eval x = .slice (some ⟨w.heap.size, 0, none⟩) 1 1) (hl : o.1.length ≤ 5000)
    (hK : ∀ a3 c3 w', w'.cell? ⟨M, 2, none⟩ = some (.slice a2 o.1.length cc2) → w'.frozen? ⟨M, 2, none⟩ = false →
      Hid ((∃ rv wv ov, Mk (w'.setCell ⟨M, 2, none⟩ (.slice a3 (o.1.length + 1) c3)) B M rest word (o.1 ++ [word], o.2) rv wv ov) ∧ Below B w (w'.setCell ⟨M, 2, none⟩ (.slice a3 (o.1.length + 1) c3))) → K (a.put oo.dst (.slice a3 (o.1.length + 1) c3)) w') :
    if Region.wanted oo (yielded ops a.tmps) = true then Oper.wp Try.prog oo a (w.alloc (.cells #[.string (bs word)] 9)).drew K Q else F := by
  subst hov
  have hlt : M < w.heap.size := (Array.getElem?_eq_some_iff.1 h.hM).1
  have hB := h.BM
  have ho2 : (w.alloc (.cells #[.string (bs word)] 9)).drew.ownsRow B 9 1 (.slice a2 o.1.length cc2) o.1.length (strs o.1) := h.ho.alloc _
  refine step_append_own hg s x 40 hop elStr B _ o.1.length (strs o.1) hs ho2 w.heap.size 1 1 [.string (bs word)] hx rfl ?_ ?_ (by omega) (by omega) (by simp; omega) ?_
  · intro j u hj
    rw [show (w.alloc (.cells #[.string (bs word)] 9)).drew.cell? ⟨w.heap.size, j, none⟩ = (w.alloc (.cells #[.string (bs word)] 9)).cell? ⟨w.heap.size, j, none⟩ from rfl]
    rw [cell_of_row _ w.heap.size j _ 9 (0, 0) (heap_alloc_new w _)]
    simpa using hj
  · intro u hu; simp at hu; subst hu; rfl
  · intro v' w' hown hgr _
    obtain ⟨a3, c3, rfl⟩ := own_form hown
    have hgr2 : w.grownBy w' (Value.ownBlock (.slice a2 o.1.length cc2)) := ⟨hgr.os, hgr.tape, hgr.output, Nat.le_trans (by simp) hgr.size, fun k hk hne => by
      rw [hgr.block k (by simp; omega) hne]; exact Below.heap_alloc w _ k hk⟩
    have hneM : Value.ownBlock (.slice a2 o.1.length cc2) ≠ some M := by
      rcases own_ne h.ho h.hM (by decide) with h1 | h1
      · rw [h1]; simp
      · exact h1
    have hM' : w'.heap[M]? = some (.cells #[rv, wv, .slice a2 o.1.length cc2, .bool o.2] 83 (0, 0)) := by
      rw [hgr2.block M hlt (fun e => hneM e.symm)]; exact h.hM
    have hb : w'.grownBy (w'.setCell ⟨M, 2, none⟩ (.slice a3 (o.1.length + 1) c3)) (some M) := ⟨rfl, rfl, rfl, by simp [World.setCell], fun k _ hk => Below.heap_setCell _ _ _ _ (fun e => hk (by simp [e]))⟩
    have hro : w'.ownsRow B 3 1 rv rest.length (ints rest) := h.hr.kept hgr2 (by
      rcases hrb : rv.ownBlock with _ | k
      · exact .inl rfl
      · refine .inr (fun e => ?_)
        obtain ⟨g, cap, cur, h1, _, h2, _⟩ := h.hr.2.resolve_left (fun h0 => by rw [h0.1] at hrb; simp [Value.ownBlock] at hrb)
        rw [h1] at hrb
        simp only [Value.ownBlock, Option.some.injEq] at hrb
        subst hrb
        exact (own_ne h.ho h2 (by decide)).elim (fun h3 => by rw [h3] at e; cases e) (fun h3 => h3 e.symm))
    have hwo : w'.ownsRow B 5 1 wv word.length (Lib.byteCells word) := h.hw.kept hgr2 (by
      rcases hrb : wv.ownBlock with _ | k
      · exact .inl rfl
      · refine .inr (fun e => ?_)
        obtain ⟨g, cap, cur, h1, _, h2, _⟩ := h.hw.2.resolve_left (fun h0 => by rw [h0.1] at hrb; simp [Value.ownBlock] at hrb)
        rw [h1] at hrb
        simp only [Value.ownBlock, Option.some.injEq] at hrb
        subst hrb
        exact (own_ne h.ho h2 (by decide)).elim (fun h3 => by rw [h3] at e; cases e) (fun h3 => h3 e.symm))
    refine hK a3 c3 w' ?_ (frozen_of_row _ _ _ _ _ hM') ⟨⟨rv, wv, _, heap_setCell_same w' M 2 _ _ _ hM', hB, hro.kept hb (own_ne hro hM' (by decide)), hwo.kept hb (own_ne hwo hM' (by decide)), ?_⟩, ?_⟩
    · rw [cell_of_row _ _ _ _ _ _ hM']; rfl
    · have := hown.kept hb (own_ne hown hM' (by decide))
      rw [show (o.1 ++ [word], o.2).1.length = o.1.length + 1 by simp, show strs (o.1 ++ [word], o.2).1 = strs o.1 ++ [.string (bs word)] from strs_append _ _]
      exact this
    · refine Below.setCell (⟨hgr2.os, hgr2.tape, hgr2.output, hgr2.size, fun k hk => hgr2.block k (by omega) (fun e => ?_)⟩) (p := ⟨M, 2, none⟩) hB _
      have := (h.ho.lt k e.symm).1
      omega

set_option maxRecDepth 100000 in
set_option maxHeartbeats 2000000 in
theorem extend_leaf_put (w : World) (B M n p : Nat) (rest : List Int) (word : List UInt8) (o : Col) (rv wv ov : Value) (h : Mk w B M rest word o rv wv ov) (hf : o.2 = false)
    (hl : word.length = n) (hn0 : 0 < n) (hn : n ≤ 60) (hp1 : 1 ≤ p) (hp : n % p = 0) (ho : o.1.length < 5000) :
    Calls Try.prog 39 #[.pointer (some ⟨M, 0, none⟩), .int .i64 n, .int .i64 p] w (ExtOut B M rest word (o.1 ++ [word], o.2) w) := by
  obtain ⟨c0, c1, c2, c3, cf⟩ := h.cells
  rw [hf] at c3
  obtain ⟨g, c, hwv, hg1, hg2, hg3, hg4, hg5⟩ := own_open h.hw (by omega)
  rw [hwv, hl] at c1
  obtain ⟨a2, cc2, hov⟩ := own_form h.ho
  rw [hov] at c2
  have cf2 := cf 2
  have hd : ((n : Int) % (p : Int) == 0) = true := by rw [beq_iff_eq]; omega
  have hq : ((o.1.length : Int) == 5000) = false := by rw [beq_eq_false_iff_ne]; omega
  have hconv : ∀ W : World, (∀ j, j < n → W.cell? ⟨g, j, none⟩ = w.cell? ⟨g, j, none⟩) → (convert 22 9 (.slice (some ⟨g, 0, none⟩) n c)).run Try.prog W = .ok (.string (bs word)) W := by
    intro W hW
    refine run_bytes_str _ _ _ 5 Try.underlying22 Try.underlying5 Try.underlying9 _ _ _ _ _ hl ?_
    intro i hi
    rw [Nat.zero_add, hW i (by omega), hg4 i (by omega)]
    simp [Lib.byteCells, hi]
  have H := Lib.hid h
  have hMlt : M < w.heap.size := (Array.getElem?_eq_some_iff.1 h.hM).1
  have hMne : M ≠ w.heap.size := by omega
  have hc0 := hconv w.drew (fun _ _ => rfl)
  have hov := Lib.hid hov
  clear h hf hwv hl hp c0 cf hg4 hg5 hconv
  go_enter Try.func39, Try.ntmps39
  go_wp2_with fail
  go_region_law (refine step_put rfl (.tmp 39) (.tmp 45) rfl H.out a2 cc2 hov.out rfl rfl (by omega) ?_; intro a3 c3 w1 d2 e2 F1)
  all_goals
    go_wp2
    refine bodyPost_ret (results_none rfl _ _ _) rfl ?_
    exact ⟨rfl, F1.out⟩

end Go.Proofs.Ytgijighdalaemaa
