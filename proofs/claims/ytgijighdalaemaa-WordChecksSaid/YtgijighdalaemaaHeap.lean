/- Whole rows of cells: loads and stores of structs and arrays that lie in a block of their own. -/
import Derived.Test.YtgijighdalaemaaBase
import Derived.Great.BuildSlice
namespace Go.Proofs.Ytgijighdalaemaa
open Go.RowKit

/-- The cells of a list of ints. -/
def arr (l : List Int) : Array Value := (ints l).toArray
theorem arr_size (l : List Int) : (arr l).size = l.length := by simp [arr, ints]
theorem arr_get (l : List Int) (j : Nat) (h : j < l.length) : (arr l)[j]? = some (.int .i64 l[j]) := by simp [arr, ints, h]
theorem arr_set (l : List Int) (j : Nat) (x : Int) : (arr l).setIfInBounds j (.int .i64 x) = arr (l.set j x) := by
  simp [arr, ints, List.map_set]
theorem arr_one (l : List Int) : (arr l).all (·.oneCell') = true := by
  simp [arr, ints]; intro x hx; rfl

theorem below_setRow {B : Nat} {a w : World} (h : Below B a w) {g : Nat} (hg : B ≤ g) (c : Array Value) : Below B a (w.setRow g c) :=
  h.trans ⟨rfl, rfl, rfl, by simp, fun k hk => setRow_other w g k c (by omega)⟩

theorem fill_one {size : Nat} (hs : 0 < size) (cs zs : Array Value) (hcs : cs.size = size) (hz : zs.size = size) :
    Instr.fill (fun i => some (i * size, size)) zs [(0, .agg cs)] = some cs := by
  obtain ⟨r, hr, hsz, hk⟩ := Great.fill_dense hs [.agg cs] 0 zs (by intro v hv; simp at hv; subst hv; exact hcs) (by simp [hz])
  have : r = cs := by
    apply Array.ext_getElem?
    intro k
    rw [hk k]
    by_cases h : k < size
    · rw [if_pos (by simp; omega)]
      simp [Nat.div_eq_of_lt h, Nat.mod_eq_of_lt h, Value.cells]
    · rw [if_neg (by simp; omega), Array.getElem?_eq_none (by omega), Array.getElem?_eq_none (by omega)]
  rw [this] at hr
  simpa using hr

/-- A slice literal of one array. -/
theorem wpList_buildSlice_one {P : Program} {ops : Array Oper} {rest : List Oper} {o : Oper} {a : Act} {w : World} {Q : Exit → Act → World → Prop} (hg : o.guard = none) (t e : TypeId) (x : Operand)
    (ho : o.op = .buildSlice t 1 #[(0, x)]) (cs : Array Value) (hx : a.eval x = .agg cs) (z : Value) (size bytes : Nat) (E : ElemOf P t e z size bytes) (hcs : cs.size = size) (hsm : size ≤ 1000)
    (h : wpList P ops Q rest (a.put o.dst (.slice (some ⟨w.heap.size, 0, none⟩) 1 1)) (w.alloc (.cells cs e))) : wpList P ops Q (o :: rest) a w := by
  obtain ⟨ie, hie, hz, hsize, -⟩ := E.info
  have hp := E.pos
  refine wpList_buildSlice hg t e 1 #[(0, x)] ho cs ie z E.ht hie hz (by rw [hsize]; omega) (by rw [hsize]; omega) ?_ h
  simp only [List.map_toArray, List.map_cons, List.map_nil, hx, hsize]
  exact fill_one hp cs _ hcs (by simp)

/-- Three results, the one in the middle a struct in a block of its own. -/
theorem results_tct {P : Program} {fn : Func} {x p y : Tmp} {ty : TypeId} (h : fn.results = #[.tmp x, .cell p ty, .tmp y]) (tmps : Array Value) (w : World) (g : Nat) (t : TypeId) (cs : Array Value) (fr : Nat × Nat) (d : TypeDesc)
    (hp : tmps.getD p undef = .pointer (some ⟨g, 0, none⟩)) (hg : w.heap[g]? = some (.cells cs t fr))
    (hu : P.underlying ty = some d) (hd : (match d with | .struct _ | .array _ _ => true | _ => false) = true) (hi : (P.info? ty).map (·.size) = some cs.size) :
    (results fn tmps).run P w = .ok (.tuple #[tmps.getD x undef, .agg cs, tmps.getD y undef]) w := by
  have hp' : tmps[p]?.getD undef = .pointer (some ⟨g, 0, none⟩) := by simpa using hp
  simp [results, h, hp', asAddr, run_loadVar_row w g t ty cs fr d hg hu hd hi]

theorem results_ct {P : Program} {fn : Func} {p y : Tmp} {ty : TypeId} (h : fn.results = #[.cell p ty, .tmp y]) (tmps : Array Value) (w : World) (g : Nat) (t : TypeId) (cs : Array Value) (fr : Nat × Nat) (d : TypeDesc)
    (hp : tmps.getD p undef = .pointer (some ⟨g, 0, none⟩)) (hg : w.heap[g]? = some (.cells cs t fr))
    (hu : P.underlying ty = some d) (hd : (match d with | .struct _ | .array _ _ => true | _ => false) = true) (hi : (P.info? ty).map (·.size) = some cs.size) :
    (results fn tmps).run P w = .ok (.tuple #[.agg cs, tmps.getD y undef]) w := by
  have hp' : tmps[p]?.getD undef = .pointer (some ⟨g, 0, none⟩) := by simpa using hp
  simp [results, h, hp', asAddr, run_loadVar_row w g t ty cs fr d hg hu hd hi]

/-- append of what lies at an address, onto a row of the call's own, as one step of a region that draws. -/
theorem step_append_own {P : Program} {ops : Array Oper} {o : Oper} {a : Act} {w : World} {K : Act → World → Prop} {Q : Exit → Act → World → Prop} {F : Prop}
    (hg : o.guard = none) (s x : Operand) (t : TypeId) (hop : o.op = .call { callee := .builtin .append, args := #[s, x], argTypes := #[t, t] })
    {e : TypeId} {z : Value} {size bytes : Nat} (E : ElemOf P t e z size bytes) (base : Nat)
    (v : Value) (n : Nat) (xs : List Value) (hs : a.eval s = v) (hown : w.ownsRow base e size v n xs)
    (g m c : Nat) (news : List Value) (hx : a.eval x = .slice (some ⟨g, 0, none⟩) m c) (hn : news.length = m * size) (hc : ∀ j u, news[j]? = some u → w.cell? ⟨g, j, none⟩ = some u) (h1 : ∀ u ∈ news, u.oneCell' = true)
    (h63 : n + m ≤ 4611686018427387904) (hbytes : (n + m) * bytes ≤ 140737488355328) (hbase : base ≤ w.heap.size)
    (hK : ∀ v' w', w'.ownsRow base e size v' (n + m) (xs ++ news) → w.grownBy w' v.ownBlock → (v' = .slice none 0 0 ↔ v = .slice none 0 0 ∧ m = 0) → K (a.put o.dst v') w') :
    if Region.wanted o (yielded ops a.tmps) = true then Oper.wp P o a w K Q else F := by
  have hw : Region.wanted o (yielded ops a.tmps) = true := by simp [Region.wanted, hg]
  rw [if_pos hw]
  obtain ⟨i, hi, hz, hsize, hby⟩ := E.info
  refine wp_append_own _ s x t hop base e i z size bytes E.ht hi hz hsize hby E.hzs E.pos v n xs hs hown ⟨g, 0, none⟩ m c news hx hn (fun j u hj => ?_) h1 (by unfold maxLen; omega) hbytes hbase hK
  have hadd : (⟨g, 0, none⟩ : Addr).add j = ⟨g, j, none⟩ := by unfold Addr.add; split <;> simp_all
  rw [hadd]; exact hc j u hj

end Go.Proofs.Ytgijighdalaemaa
