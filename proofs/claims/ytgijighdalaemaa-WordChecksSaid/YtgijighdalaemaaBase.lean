/- Common words for the walks of this seat: strings as lists of bytes, contracts that leave old memory alone. -/
import Derived.WalkKit
import Derived.WalkSpells
import Derived.WalkLawsBesides
import Derived.Deep.QuietTactic
import Derived.BigQuiet
import Derived.Lib.Hide
import Derived.Lib.QuietBelow
namespace Go.Proofs.Ytgijighdalaemaa
open Go.RowKit

/-- The string with some bytes. -/
def bs (l : List UInt8) : ByteArray := ⟨l.toArray⟩
/-- The bytes of a string. -/
def lb (s : ByteArray) : List UInt8 := s.data.toList

@[go_sem] theorem bs_size (l : List UInt8) : (bs l).size = l.length := List.size_toArray ..
@[simp] theorem lb_bs (l : List UInt8) : lb (bs l) = l := by simp [bs, lb]
@[simp] theorem bs_lb (s : ByteArray) : bs (lb s) = s := by simp [bs, lb]
theorem lb_length (s : ByteArray) : (lb s).length = s.size := Array.length_toList
theorem bs_inj {a b : List UInt8} (h : bs a = bs b) : a = b := by have := congrArg lb h; simpa using this

/-- The function returns a value, whatever the world, and leaves all old memory alone. -/
def Gives (P : Program) (f : FuncId) (args : Array Value) (w : World) (v : Value) : Prop :=
  Calls P f args w fun e w' => e = .returned v ∧ Below w.heap.size w w'

theorem below_drawn (w : World) (n : Nat) : Below w.heap.size w (w.drewN n) := ⟨rfl, rfl, rfl, Nat.le_refl _, fun _ _ => rfl⟩

theorem below_dn {B : Nat} {a w : World} (h : Below B a w) (n : Nat) : Below B a (w.drewN n) := h.trans ⟨rfl, rfl, rfl, Nat.le_refl _, fun _ _ => rfl⟩

theorem ret_int {k : IntKind} {a b : Int} (h : a = b) : Ending.returned (.int k a) = .returned (.int k b) := by rw [h]
theorem ret_str {a b : ByteArray} (h : a = b) : Ending.returned (.string a) = .returned (.string b) := by rw [h]

theorem foldl_push (l : List UInt8) : ∀ (a : List UInt8), (l.map fun c => (c.toNat : Int)).foldl (fun (r : ByteArray) n => r.push (UInt8.ofNat n.toNat)) (bs a) = bs (a ++ l) := by
  induction l with
  | nil => intro a; simp
  | cons c l ih =>
    intro a
    have e : (bs a).push (UInt8.ofNat (c.toNat : Int).toNat) = bs (a ++ [c]) := by
      simp [bs, ByteArray.push]
    simp only [List.map_cons, List.foldl_cons, e, ih, List.append_assoc, List.singleton_append]

/-- The text of a slice of bytes. -/
theorem run_bytes_str {P : Program} (w : World) (src dst e : TypeId) (hs : P.underlying src = some (.slice e)) (he : P.underlying e = some (.int .u8)) (hd : P.underlying dst = some .string)
    (b off len cap : Nat) (l : List UInt8) (hl : l.length = len) (hc : ∀ i (h : i < l.length), w.cell? ⟨b, off + i, none⟩ = some (.int .u8 (l[i].toNat : Int))) :
    (convert src dst (.slice (some ⟨b, off, none⟩) len cap)).run P w = .ok (.string (bs l)) w := by
  rw [run_convert_bytes_string w src dst e _ _ _ hs he hd]
  have h1 := run_loadCells_list (P := P) (w := w) ⟨b, off, none⟩ ((l.map fun c => (c.toNat : Int)).map (Value.int .u8)) (fun j v hv => by
    simp only [List.getElem?_map, Option.map_map, Option.map_eq_some_iff] at hv
    obtain ⟨c, hc1, rfl⟩ := hv
    obtain ⟨hj, rfl⟩ := List.getElem?_eq_some_iff.1 hc1
    have hadd : (⟨b, off, none⟩ : Addr).add j = ⟨b, off + j, none⟩ := by unfold Addr.add; split <;> simp_all
    rw [hadd]; exact hc j hj)
  simp only [List.length_map, hl] at h1
  rw [run_bytesToString (P := P) w ⟨b, off, none⟩ len cap (l.map fun c => (c.toNat : Int)) h1]
  have := foldl_push l []
  simp only [List.nil_append] at this
  rw [show ByteArray.empty = bs [] from rfl, this]

/-- Machine arithmetic of natural numbers that stay small. -/
theorem wrap_div (p n : Nat) (h : p ≤ 4611686018427387904) : wrap64 ((p : Int) / (n : Int)) = ((p / n : Nat) : Int) := by
  have h1 := Nat.div_le_self p n
  rw [← Int.natCast_ediv]
  generalize p / n = x at *
  exact IntWalk.wrap64_in _ ⟨by omega, by omega⟩
theorem wrap_mul (a b : Nat) (h : a * b ≤ 4611686018427387904) : IntKind.i64.wrap ((a : Int) * (b : Int)) = ((a * b : Nat) : Int) := by
  rw [← Int.natCast_mul]
  generalize a * b = x at *
  exact IntWalk.i64_in _ (by omega)
theorem wrap_mul1 (a b : Nat) (h : (a + 1) * b ≤ 4611686018427387904) : IntKind.i64.wrap (((a : Int) + 1) * (b : Int)) = (((a + 1) * b : Nat) : Int) := wrap_mul (a + 1) b h

/-- A slice type with its element type, the element's zero, its cells and bytes. -/
structure ElemOf (P : Program) (t e : TypeId) (z : Value) (size bytes : Nat) : Prop where
  ht : P.underlying t = some (.slice e)
  info : ∃ i, P.info? e = some i ∧ i.zero = some z ∧ i.size = size ∧ i.bytes = bytes
  hzs : z.cells.size = size
  pos : 0 < size

theorem wpList_append_new {P : Program} {W : World} {ops : Array Oper} {rest : List Oper} {o : Oper} {a : Act} {Q : Exit → Act → World → Prop} (hgd : o.guard = none) (s x : Operand) (t : TypeId)
    (ho : o.op = .call { callee := .builtin .append, args := #[s, x], argTypes := #[t, t] })
    {e : TypeId} {z : Value} {size bytes : Nat} (E : ElemOf P t e z size bytes)
    (v : Value) (m : Nat) (news : List Value) (hs : a.eval s = v) (hx : a.eval x = .slice (some ⟨W.heap.size, 0, none⟩) m m)
    {base n : Nat} {xs : List Value} (hown : W.ownsRow base e size v n xs) (hbase : base ≤ W.heap.size)
    (hl : news.length = m * size) (h1 : ∀ u ∈ news, u.oneCell' = true) (h63 : n + m ≤ 4611686018427387904) (hbytes : (n + m) * bytes ≤ 140737488355328)
    (h : ∀ v' w', w'.ownsRow base e size v' (n + m) (xs ++ news) → (W.alloc (.cells news.toArray e)).grownBy w' v.ownBlock → (v' = .slice none 0 0 ↔ v = .slice none 0 0 ∧ m = 0) → wpList P ops Q rest (a.put o.dst v') w') :
    wpList P ops Q (o :: rest) a (W.alloc (.cells news.toArray e)) := by
  obtain ⟨i, hi, hz, hsize, hby⟩ := E.info
  refine wpList_append_own _ hgd s x t ho base e i z size bytes E.ht hi hz hsize hby E.hzs E.pos v n xs hs (hown.alloc _) ⟨W.heap.size, 0, none⟩ m m news hx hl ?_ h1 (by unfold maxLen; omega) hbytes (by simp; omega) h
  intro j u hj
  have hadd : (⟨W.heap.size, 0, none⟩ : Addr).add j = ⟨W.heap.size, j, none⟩ := by unfold Addr.add; split <;> simp_all
  rw [hadd, cell_of_row _ W.heap.size j _ e (0, 0) (heap_alloc_new W _)]
  simpa using hj

/-- What an owned row with an element in it looks like. -/
theorem own_open {w : World} {base e size n : Nat} {v : Value} {xs : List Value} (h : w.ownsRow base e size v n xs) (hn : 0 < n) :
    ∃ g cap, v = .slice (some ⟨g, 0, none⟩) n cap ∧ base ≤ g ∧ g < w.heap.size ∧ n ≤ cap ∧ (∀ j, j < n * size → w.cell? ⟨g, j, none⟩ = xs[j]?) ∧ (∀ j, w.frozen? ⟨g, j, none⟩ = false) := by
  rcases h.2 with ⟨rfl, h0⟩ | ⟨g, cap, cur, rfl, hb, hg, hc, rest⟩
  · omega
  · have h' : w.ownsRow base e size (.slice (some ⟨g, 0, none⟩) n cap) n xs := h
    exact ⟨g, cap, rfl, hb, (Array.getElem?_eq_some_iff.1 hg).1, hc, fun j hj => h'.cellAt j hj, fun j => h'.frozenAt j⟩

/-- An owned row in a later world that keeps what lies below its end. -/
theorem own_below {w w' : World} {base e size n : Nat} {v : Value} {xs : List Value} (h : w.ownsRow base e size v n xs) {B : Nat} (hb : Below B w w') (hB : w.heap.size ≤ B) : w'.ownsRow base e size v n xs :=
  h.kept (row := none) ⟨hb.os, hb.tape, hb.output, hb.size, fun k hk _ => hb.block k (by omega)⟩ (by cases hv : v.ownBlock <;> simp)

/-- Numbers as cells. -/
def ints (l : List Int) : List Value := l.map (Value.int .i64)
theorem ints_length (l : List Int) : (ints l).length = l.length := by simp [ints]
theorem ints_get (l : List Int) (j : Nat) (h : j < l.length) : (ints l)[j]? = some (.int .i64 l[j]) := by simp [ints, h]
theorem ints_append (l m : List Int) : ints (l ++ m) = ints l ++ ints m := by simp [ints]
theorem ints_set (l : List Int) (j : Nat) (x : Int) : (ints l).set j (.int .i64 x) = ints (l.set j x) := by simp [ints, List.map_set]

end Go.Proofs.Ytgijighdalaemaa
