/- Lemmas for the laws of this seat, part 4. -/
import Derived.Maps.OwnIn
import Derived.RangeFuncBox
import Derived.Deep.LoopGhost
import Derived.Lib.Walk
import Derived.Lib.SliceRun
import Derived.Deep.Cut
import Derived.Shelf.Strings.BuilderK
import Derived.Test.YtepicfdhphiiaaaGreatDoorUa3
set_option maxRecDepth 100000
set_option maxHeartbeats 16000000
namespace Go.Proofs.YtepicfdhphiiaaaGreatDoor
open Go.RowKit Go.Shelf
attribute [local go_sem] Oper.semAt_some
structure OwnR (w:World) (B:Nat) (b:Option Addr) (d n:Nat) (L:List (Nat×Nat)) (ls:Nat→List Int):Prop where
 row:w.ownsRow B 54 1 (.slice b L.length d) L.length (L.map fun x => .slice (some ⟨x.1,0,none⟩) n x.2)
 each:∀ i (h1:i<L.length),OwnI w B (some ⟨L[i].1,0,none⟩) L[i].2 (ls i)
 lens:∀ i,(ls i).length=n
theorem OwnR.nil(w:World)(B n:Nat)(ls:Nat→List Int)(h:∀ i,(ls i).length=n):OwnR w B none 0 n [] ls:=⟨⟨rfl,.inl ⟨rfl,rfl⟩⟩,fun i h1=>by simp at h1,h⟩
theorem ownI_lt{w:World}{B c g:Nat}{l:List Int}(h:OwnI w B (some ⟨g,0,none⟩) c l):B≤g∧g<w.heap.size:=World.ownsRow.lt h g rfl
theorem OwnR.kept{w w':World}{B r:Nat}{b:Option Addr}{d n:Nat}{L:List (Nat×Nat)}{ls:Nat→List Int}(h:OwnR w B b d n L ls)(hg:w.grownBy w' (some r))(hr:r<B):OwnR w' B b d n L ls:=by
 refine⟨h.row.kept hg (.inr fun e=>?_),fun i h1=>(h.each i h1).block (hg.block _ (ownI_lt (h.each i h1)).2 fun e=>?_),h.lens⟩
 ·have:=(h.row.lt r e).1
  omega
 ·have:=(ownI_lt (h.each i h1)).1
  have:=Option.some.inj e
  omega
theorem OwnR.below{w w':World}{B B':Nat}{b:Option Addr}{d n:Nat}{L:List (Nat×Nat)}{ls:Nat→List Int}(h:OwnR w B b d n L ls)(hb:Below B' w w')(hB:w.heap.size≤B'):OwnR w' B b d n L ls :=
 ⟨own_below h.row hb hB,fun i h1=>(h.each i h1).block (hb.block _ (by have:=(ownI_lt (h.each i h1)).2;omega)),h.lens⟩
theorem OwnR.lower{w:World}{B B':Nat}{b:Option Addr}{d n:Nat}{L:List (Nat×Nat)}{ls:Nat→List Int}(h:OwnR w B b d n L ls)(hb:B'≤B):OwnR w B' b d n L ls :=
 ⟨⟨h.row.1,h.row.2.imp id fun ⟨g,cap,cur,h1,h2,h3⟩=>⟨g,cap,cur,h1,Nat.le_trans hb h2,h3⟩⟩,fun i h1=>(h.each i h1).lower hb,h.lens⟩
theorem ownR_apart{w:World}{B1 B2 s1 s2 n1 n2:Nat}{e1 e2:TypeId}{v1 v2:Value}{x1 x2:List Value}(h1:w.ownsRow B1 e1 s1 v1 n1 x1)(h2:w.ownsRow B2 e2 s2 v2 n2 x2)(hne:e1≠e2):
  ∀ k,v1.ownBlock=some k→v2.ownBlock≠some k:=by
 intro k hk hk2;rcases h1.2 with⟨rfl,_⟩|⟨g,cap,cur,rfl,_,hg,_⟩
 ·simp[Value.ownBlock] at hk
 ·rcases h2.2 with⟨rfl,_⟩ | ⟨g2,cap2,cur2,rfl,_,hg2,_⟩
  ·simp[Value.ownBlock] at hk2
  ·simp only[Value.ownBlock,Option.some.injEq] at hk hk2;subst hk;subst hk2;rw[hg] at hg2;simp only[Option.some.injEq,Obj.cells.injEq] at hg2;exact hne hg2.2.1
theorem OwnR.put{w1 w3:World}{B d n c g:Nat}{b:Option Addr}{L:List (Nat×Nat)}{ls:Nat→List Int}{v':Value}(h:OwnR w1 B b d n L ls)(ho:OwnI w1 B (some ⟨g,0,none⟩) c (ls L.length))
  (hown:w3.ownsRow B 54 1 v' (L.length+1) ((L.map fun x=>Value.slice (some ⟨x.1,0,none⟩) n x.2)++[.slice (some ⟨g,0,none⟩) n c])) (hg:(w1.alloc (.cells #[.slice (some ⟨g,0,none⟩) n c] 54)).grownBy w3 (Value.slice b L.length d).ownBlock) :
  ∃ b' d',v' = .slice b' (L.length+1) d'∧OwnR w3 B b' d' n (L++[(g,c)]) ls:=by
 obtain⟨b',d',rfl⟩:=own_form hown;have hA:Below w1.heap.size w1 (w1.alloc (.cells #[.slice (some ⟨g,0,none⟩) n c] 54)):=(Below.refl _ _).alloc nr_ _;have hrow:=own_below h.row hA nr_;have keep:∀ (a2:Option Addr) (c2:Nat) (l2:List Int),OwnI w1 B a2 c2 l2→OwnI w3 B a2 c2 l2:=fun a2 c2 l2 h2=>by
  have h3:OwnI _ B a2 c2 l2:=h2.below hA nr_;unfold OwnI at h3 ⊢;refine World.ownsRow.kept h3 hg ?_;have hap:=ownR_apart hrow h3 (by decide);cases hv:(Value.slice b L.length d).ownBlock with
  | none=>cases hv2:(Value.slice a2 l2.length c2).ownBlock<;>simp
  | some k=>exact .inr (hap k hv)
 refine⟨b',d',rfl,?_,?_,h.lens⟩
 ·rw[List.length_append,List.map_append];exact hown
 ·intro i h1
  by_cases hi:i<L.length
  ·simp only[List.getElem_append_left hi];exact keep _ _ _ (h.each i hi)
  ·have e:i=L.length:=by simp at h1;omega
   subst e;simp only[List.getElem_append_right nr_,Nat.sub_self,List.getElem_cons_zero];exact keep _ _ _ ho
structure BetI (w0:World) (D b5 b6 b7 b9 n:Nat) (high:Int) (ls:Nat→List Int) (k:Nat) (X:World) (b:Option Addr) (d:Nat) (L:List (Nat×Nat)):Prop where
 len:L.length=k
 c9:X.heap[b9]?=some (.cells #[.slice b k d] 29 (0,0))
 own:OwnR X (D+3) b d n L ls
 c5:X.heap[b5]?=some (.cells #[.int .i64 high] 3 (0,0))
 c6:X.heap[b6]?=some (.cells #[.slice none 0 0] 29 (0,0))
 c7:X.heap[b7]?=some (.cells #[.int .i64 0] 37 (0,0))
 bel:Below w0.heap.size w0 X
theorem BetI.kept{w0:World}{D b5 b6 b7 b9 n:Nat}{high:Int}{ls:Nat→List Int}{k:Nat}{X Y:World}{b:Option Addr}{d:Nat}{L:List (Nat×Nat)}{r:Nat}(h:BetI w0 D b5 b6 b7 b9 n high ls k X b d L)(hg:X.grownBy Y (some r))(hr:D≤r∧r≤D+2)
  (h0:w0.heap.size≤D) (h5:b5<D) (h6:b6<D) (h7:b7<D) (h9:b9<D):BetI w0 D b5 b6 b7 b9 n high ls k Y b d L:=by
 have hk:∀ i,i<D→∀ o,X.heap[i]?=some o→Y.heap[i]?=some o:=fun i hi o ho=>(hg.block i (Array.getElem?_eq_some_iff.1 ho).1 (fun e=>by have:=Option.some.inj e;omega)).trans ho
 refine⟨h.len,hk _ h9 _ h.c9,h.own.kept hg (by omega),hk _ h5 _ h.c5,hk _ h6 _ h.c6,hk _ h7 _ h.c7,h.bel.trans ⟨hg.os,hg.tape,hg.output,hg.size,fun i hi=>hg.block i ?_ (fun e=>by have:=Option.some.inj e;omega)⟩⟩;have:=h.bel.size
 omega
end Go.Proofs.YtepicfdhphiiaaaGreatDoor

/- lattice.reduce. -/
namespace Go.Proofs.YtepicfdhphiiaaaGreatDoor
open Go.RowKit Go.Shelf
attribute [local go_sem] Oper.semAt_some

/-- The state of the loop. -/
structure RedI (w : World) (D gr cr n : Nat) (F : Nat → Int) (k : Nat) (X : World) (b : Option Addr) (d : Nat) (vs : List Value) : Prop where
  c4 : X.heap[w.heap.size + 1]? = some (.cells #[.slice (some ⟨gr, 0, none⟩) n cr] 113 (0, 0))
  c5 : X.heap[w.heap.size + 1 + 1]? = some (.cells #[.slice b k d] 113 (0, 0))
  row : RowS X gr 0 n F
  own : X.ownsRow w.heap.size 84 1 (.slice b k d) k vs
  far : ∀ g, (Value.slice b k d).ownBlock = some g → D + 1 < g
  bel : Below w.heap.size w X
theorem RedI.kept {w : World} {D gr cr n k d r : Nat} {F : Nat → Int} {X Y : World} {b : Option Addr} {vs : List Value} (h : RedI w D gr cr n F k X b d vs) (hg : X.grownBy Y (some r)) (hr : D ≤ r ∧ r ≤ D + 1) (h0 : w.heap.size + 3 ≤ D) (hgr : gr < D) : RedI w D gr cr n F k Y b d vs := by
  have hk : ∀ i, i < D → ∀ o, X.heap[i]? = some o → Y.heap[i]? = some o := fun i hi o ho => (hg.block i (Array.getElem?_eq_some_iff.1 ho).1 (fun e => by have := Option.some.inj e; omega)).trans ho
  refine ⟨hk _ (by omega) _ h.c4, hk _ (by omega) _ h.c5, h.row.heap hg.size (hg.block _ h.row.lt (fun e => by have := Option.some.inj e; omega)), h.own.kept hg (.inr fun e => ?_), h.far, h.bel.trans ⟨hg.os, hg.tape, hg.output, hg.size, fun i hi => hg.block i (by have := h.bel.size; omega) (fun e => by have := Option.some.inj e; omega)⟩⟩
  have := h.far r e
  omega
end Go.Proofs.YtepicfdhphiiaaaGreatDoor

/- slices.IndexFunc and ContainsFunc on matrices; table.Check, hermite.pivot. -/
namespace Go.Proofs.YtepicfdhphiiaaaGreatDoor
open Go.RowKit

theorem RdM.rdi {w : World} {a : Option Addr} {rows : List (List Int)} (h : RdM w a rows) : RdI w a rows := by
  obtain ⟨A, h1, h2⟩ := h
  rcases Nat.eq_zero_or_pos rows.length with h0 | h0
  · exact .inl (List.eq_nil_of_length_eq_zero h0)
  · obtain ⟨b, off, e, hb, hc⟩ := h1.open (by simpa using h0)
    exact .inr ⟨b, off, e, hb, fun i hi => ⟨(A i).1, (A i).2, hc i _ (by rw [List.getElem?_map, List.getElem?_range hi]; rfl), h2 i hi⟩⟩
theorem RdI.take {w : World} {a : Option Addr} {rows : List (List Int)} (h : RdI w a rows) (k : Nat) : RdI w a (rows.take k) := by
  rcases h with h | ⟨b, off, h1, h2, h3⟩
  · exact .inl (by rw [h, List.take_nil])
  · refine .inr ⟨b, off, h1, h2, fun i hi => ?_⟩
    rw [List.length_take] at hi
    have e : (rows.take k).getD i [] = rows.getD i [] := by rw [List.getD_eq_getElem?_getD, List.getElem?_take, if_pos (by omega), ← List.getD_eq_getElem?_getD]
    rw [e]
    exact h3 i (by omega)

theorem idxM_any (w : World) (a : Option Addr) (c : Nat) (l : List (List Int)) (hr : RdI w a l) (hl : l.length ≤ 1000000) (f : FuncId) (lb : Array Value) (eg : ∀ args w, (callFunc f args).run Tryz.prog w = .ok (.enter f args) w) (pf : List Int → Bool)
    (hcl : ∀ W, Below w.heap.size w W → ∀ x ∈ l, ∀ a' c', Rd W a' (ints x) → Gives Tryz.prog f (#[.slice a' x.length c'] ++ lb) W (.bool (pf x))) :
    Gives Tryz.prog 109 #[.slice a l.length c, .func (.func f) #[] lb] w (.int .i64 (idxB pf l 0)) := by
  unfold Gives
  have Hr := Lib.hid hr
  have Hcl := Lib.hid hcl
  clear hr hcl
  generalize hm : l.length = m at *
  have Hm := Lib.hid hm
  clear hm
  generalize hv : idxB pf l 0 = v at *
  have Hvv : Hid (v = idxB pf l 0) := hv.symm
  clear hv
  go_enter Tryz.func109, Tryz.ntmps109
  go_wp2_with fail
  go_loopw [8] (fun i wr => ∃ k : Nat, k ≤ m ∧ i = .int .i64 k ∧ Hid (v = idxB pf (l.drop k) k) ∧ Hid (Below w.heap.size w wr)) (fun i _ => m - (intOf i).toNat)
  case atStart => exact ⟨0, Nat.zero_le _, rfl, Hvv, Below.refl _ _⟩
  case round =>
    clear Hvv
    obtain ⟨k, hk, rfl, Hx, B⟩ := hrel
    by_cases hlt : k < m
    · have hlt' : (k : Int) < m := by omega
      have hkb : k < l.length := by rw [Hm.out]; exact hlt
      obtain ⟨b, off, rfl, hb, hcells⟩ := rdi_cells Hr.out (by omega)
      obtain ⟨ax, cx, cy, rx⟩ := hcells k hkb
      rw [← B.out.cell (p := ⟨b, off + k, none⟩) hb] at cy
      have Hd : Hid (l.drop k = l[k] :: l.drop (k + 1)) := List.drop_eq_getElem_cons hkb
      have Hc := Lib.hid (Hcl.out wr B.out l[k] (List.getElem_mem hkb) ax cx (rx.below B.out (Nat.le_refl _)))
      clear hcells rx
      generalize l[k] = x at *
      cases hf : pf x with
      | false =>
        have Hn : Hid (v = idxB pf (l.drop (k + 1)) (k + 1)) := by show _ = _; rw [Hx.out, Hd.out, idxB, if_neg (by rw [hf]; decide)]
        rw [hf] at Hc
        go_wp2_with fail
        refine Calls.mono Hc.out ?_
        rintro e w1 ⟨rfl, hb1⟩
        have B1 := Lib.hid (B.out.trans (hb1.mono B.out.size))
        clear hb1 Hc B cy
        go_wp2_with fail
        go_roundw
        case rel => exact ⟨k + 1, by omega, by go_num, Hn, B1⟩
        case measure => simp [intOf]; omega
      | true =>
        have Hn : Hid (v = k) := by show _ = _; rw [Hx.out, Hd.out, idxB, if_pos hf]
        rw [hf] at Hc
        go_wp2_with fail
        refine Calls.mono Hc.out ?_
        rintro e w1 ⟨rfl, hb1⟩
        have B1 := Lib.hid (B.out.trans (hb1.mono B.out.size))
        clear hb1 Hc B cy
        go_wp2_with fail
        go_ret
        exact ⟨by rw [Hn.out]; rfl, B1.out⟩
    · have hlt' : ¬ (k : Int) < m := by omega
      have Hn : Hid (v = -1) := by show _ = _; rw [Hx.out, List.drop_of_length_le (by rw [Hm.out]; omega)]; rfl
      go_wp2_with fail
      go_ret
      exact ⟨by rw [Hn.out]; rfl, B.out⟩

theorem conM_any (w : World) (a : Option Addr) (c : Nat) (l : List (List Int)) (hr : RdI w a l) (hl : l.length ≤ 1000000) (f : FuncId) (lb : Array Value) (eg : ∀ args w, (callFunc f args).run Tryz.prog w = .ok (.enter f args) w) (pf : List Int → Bool)
    (hcl : ∀ W, Below w.heap.size w W → ∀ x ∈ l, ∀ a' c', Rd W a' (ints x) → Gives Tryz.prog f (#[.slice a' x.length c'] ++ lb) W (.bool (pf x))) :
    Gives Tryz.prog 68 #[.slice a l.length c, .func (.func f) #[] lb] w (.bool (l.any pf)) := by
  unfold Gives
  have Hc := Lib.hid (idxM_any w a c l hr hl f lb eg pf hcl)
  have Hv := Lib.hid (idxB_any pf l 0)
  unfold Gives at Hc
  clear hr hcl
  generalize l.length = m at *
  generalize idxB pf l 0 = v at *
  generalize l.any pf = z at *
  go_enter Tryz.func68, Tryz.ntmps68
  go_wp2_with fail
  refine Calls.mono Hc.out ?_
  rintro e w1 ⟨rfl, hb1⟩
  have B1 := Lib.hid hb1
  clear hb1 Hc
  go_wp2_with fail
  go_ret
  exact ⟨by rw [← Hv.out]; rfl, B1.out⟩


theorem great_any (w : World) (x : Int) (h : rfit x) : Gives Tryz.prog 142 #[.int .i64 x] w (.bool ((fun _ => false) x)) := by
  unfold Gives
  unfold rfit at h
  have h1 : ¬ (1000000000 : Int) < x := by omega
  have h2 : ¬ x < -1000000000 := by omega
  go_enter Tryz.func142, Tryz.ntmps142
  go_wp2_with fail
  go_ret
  exact ⟨rfl, Below.refl _ _⟩

/-- table.Check accepts right rows. -/
theorem tableCheck_ok (w : World) (a : Option Addr) (c n : Nat) (rows : List (List Int)) (hr : RdM w a rows) (hz : latcode n rows = 0) :
    Gives Tryz.prog 112 #[.slice a rows.length c] w (.int .i64 0) := by
  unfold Gives
  obtain ⟨h12, hr12, hac⟩ : n ≤ 12 ∧ rows.length ≤ 12 ∧ acode n rows = 0 := by
    unfold latcode at hz
    split at hz
    · simp at hz
    · split at hz
      · simp at hz
      · exact ⟨by omega, by omega, hz⟩
  have hall := acode_zero.1 hac
  obtain ⟨A, hA, hrow⟩ := hr
  have Hc := Lib.hid (fun (hpos : 0 < rows.length) W (hW : Below w.heap.size w W) => by
    obtain ⟨b, off, e, hb, hcell⟩ := hA.open (by simpa using hpos)
    exact (⟨b, off, e, fun i (hi2 : i < rows.length) => (hW.cell (p := ⟨b, off + i, none⟩) hb).trans (hcell i _ (by rw [List.getElem?_map, List.getElem?_range hi2]; rfl))⟩ : ∃ b off, a = some ⟨b, off, none⟩ ∧ ∀ i, i < rows.length → W.cell? ⟨b, off + i, none⟩ = some (.slice (A i).1 (rows.getD i []).length (A i).2)))
  have Hlen : Hid (∀ i, i < rows.length → (rows.getD i []).length = n) := fun i hi2 => (hall _ (lrow_mem hi2)).2
  have HG := Lib.hid (fun i (hi : i < rows.length) W (hW : Below w.heap.size w W) => by
    have hm := lrow_mem hi
    have := conI_any W (A i).1 (A i).2 (rows.getD i []) ((hrow i hi).below hW (Nat.le_refl _)) (by rw [(hall _ hm).2]; omega) 142 #[] (enter_of Tryz.func142 (by kernel_rfl) rfl) (fun _ => false) fun W _ x hx => great_any W x ((rcode_zero.1 (hall _ hm).1).2 x hx)
    rw [(hall _ hm).2, List.any_eq_false.2 (fun _ _ => by simp)] at this
    exact this)
  clear hA hrow hz hac hall
  obtain ⟨m, hm⟩ : ∃ m, rows.length = m := ⟨_, rfl⟩
  rw [hm] at hr12 Hc Hlen HG ⊢
  clear hm
  have g1 : ¬ (12 : Int) < m := by omega
  have g2 : ¬ (12 : Int) < n := by omega
  by_cases hm0 : m = 0
  · subst hm0
    clear Hc Hlen HG
    go_enter Tryz.func112, Tryz.ntmps112
    go_wp2_with fail
    go_loopw [10] (fun z wr => z = .int .i64 0 ∧ wr = w) (fun _ _ => 0)
    case atStart => exact ⟨rfl, rfl⟩
    case round =>
      obtain ⟨rfl, rfl⟩ := hrel
      go_wp2_with fail
      go_ret
      exact ⟨rfl, Below.refl _ _⟩
  · obtain ⟨b, off, rfl, -⟩ := Hc.out (by omega) w (Below.refl _ _)
    have Hk : Hid (∀ W, Below w.heap.size w W → ∀ i, i < m → W.cell? ⟨b, off + i, none⟩ = some (.slice (A i).1 n (A i).2)) := fun W hW i hi2 => by
      obtain ⟨b', off', e, h⟩ := Hc.out (by omega) W hW
      simp only [Option.some.injEq, Addr.mk.injEq, and_true] at e
      obtain ⟨rfl, rfl⟩ := e
      rw [h i hi2, Hlen.out i hi2]
    clear Hc
    go_enter Tryz.func112, Tryz.ntmps112
    go_wp2_with fail
    go_loopw [10] (fun z wr => ∃ t : Nat, t ≤ m ∧ z = .int .i64 t ∧ Hid (Below w.heap.size w wr)) (fun z _ => m - (intOf z).toNat)
    case atStart => exact ⟨0, Nat.zero_le _, rfl, Below.refl _ _⟩
    case round =>
      obtain ⟨t, ht, rfl, D⟩ := hrel
      by_cases hlt : t < m
      · have hlt' : (t : Int) < m := by omega
        have hltt : decide (t < m) = true := decide_eq_true hlt
        have ct := Hk.out wr D.out t hlt
        have c0 := Hk.out wr D.out 0 (by omega)
        rw [Nat.add_zero] at c0
        have HGt := Lib.hid (HG.out t hlt wr D.out)
        generalize (A t).1 = a1 at *
        generalize (A t).2 = c1 at *
        generalize (A 0).1 = a0 at *
        generalize (A 0).2 = c00 at *
        go_wp2_with fail
        refine Calls.mono HGt.out ?_
        rintro e w1 ⟨rfl, hb1⟩
        have D1 := Lib.hid (D.out.trans (hb1.mono D.out.size))
        clear hb1 D HGt ct c0
        go_wp2_with fail
        go_roundw
        case rel => exact ⟨t + 1, by omega, by go_num, D1⟩
        case measure => simp [intOf]; omega
      · have hlt' : ¬ (t : Int) < m := by omega
        have hltt : decide (t < m) = false := decide_eq_false hlt
        obtain rfl : m = t := by omega
        go_wp2_with fail
        go_ret
        exact ⟨rfl, D.out⟩

theorem pivot1_any (w : World) (x : Int) : Gives Tryz.prog 169 #[.int .i64 x] w (.bool (decide (x ≠ 0))) := by
  unfold Gives
  by_cases h : x = 0
  · subst h
    go_enter Tryz.func169, Tryz.ntmps169
    go_wp2_with fail
    go_ret
    exact ⟨rfl, Below.refl _ _⟩
  · rw [decide_eq_true h]
    have hb : (x != 0) = true := by rw [bne_iff_ne]; exact h
    go_enter Tryz.func169, Tryz.ntmps169
    go_wp2_with fail
    go_ret
    exact ⟨rfl, Below.refl _ _⟩
theorem idxB_at {xs : List Int} {p : Nat} (h0 : ∀ j, j < p → xs.getD j 0 = 0) (h1 : xs.getD p 0 ≠ 0) : ∀ k, idxB (fun x => decide (x ≠ 0)) xs k = ((k + p : Nat) : Int) := by
  induction xs generalizing p with
  | nil => simp at h1
  | cons x xs ih =>
    intro k
    match p with
    | 0 =>
      unfold idxB
      rw [if_pos (decide_eq_true (by simpa using h1))]; rfl
    | p + 1 =>
      have hx : x = 0 := by simpa using h0 0 (by omega)
      unfold idxB
      rw [if_neg (by rw [hx]; decide), ih (p := p) (fun j hj => by simpa using h0 (j + 1) (by omega)) (by simpa using h1)]
      congr 1
      omega
theorem pivot_any (w : World) (a : Option Addr) (c : Nat) (l : List Int) (hr : Rd w a (ints l)) (hl : l.length ≤ 1000000) (p : Nat) (h0 : ∀ j, j < p → l.getD j 0 = 0) (h1 : l.getD p 0 ≠ 0) :
    Gives Tryz.prog 143 #[.slice a l.length c] w (.int .i64 p) := by
  unfold Gives
  have Hc := Lib.hid (idxI_any w a c l hr hl 169 #[] (enter_of Tryz.func169 (by kernel_rfl) rfl) (fun x => decide (x ≠ 0)) fun W _ x _ => pivot1_any W x)
  have e := idxB_at h0 h1 0
  rw [Nat.zero_add] at e
  rw [e] at Hc
  unfold Gives at Hc
  clear hr h0 h1 e
  generalize l.length = m at *
  go_enter Tryz.func143, Tryz.ntmps143
  go_wp2_with fail
  refine Calls.mono Hc.out ?_
  rintro e w1 ⟨rfl, hb1⟩
  have B1 := Lib.hid hb1
  clear hb1 Hc
  go_wp2_with fail
  go_ret
  exact ⟨rfl, B1.out⟩

end Go.Proofs.YtepicfdhphiiaaaGreatDoor

/- Bounds for the normal forms of lattices of small rows, plain. -/
namespace Go.Proofs.YtepicfdhphiiaaaGreatDoor

/-- Absolute values together. -/
def nrm : Nat → Vc → Nat
  | 0, _ => 0
  | n + 1, x => nrm n x + (x n).natAbs
theorem nrm_le : ∀ (n : Nat) (x : Vc) (i : Nat), i < n → (x i).natAbs ≤ nrm n x
  | n + 1, x, i, h => by
    show _ ≤ nrm n x + (x n).natAbs
    by_cases e : i = n
    · rw [e]; omega
    · have := nrm_le n x i (by omega)
      omega
theorem nrm_lin : ∀ (n : Nat) (a b : Int) (x y : Vc), nrm n (fun i => a * x i - b * y i) ≤ a.natAbs * nrm n x + b.natAbs * nrm n y
  | 0, _, _, _, _ => Nat.zero_le _
  | n + 1, a, b, x, y => by
    have h1 := nrm_lin n a b x y
    have h2 : (a * x n - b * y n).natAbs ≤ a.natAbs * (x n).natAbs + b.natAbs * (y n).natAbs := by
      rw [← Int.natAbs_mul, ← Int.natAbs_mul]; omega
    show nrm n (fun i => a * x i - b * y i) + (a * x n - b * y n).natAbs ≤ a.natAbs * (nrm n x + (x n).natAbs) + b.natAbs * (nrm n y + (y n).natAbs)
    rw [Nat.mul_add, Nat.mul_add]; omega
/-- A linear form, and its bound. -/
structure LinF (n g : Nat) (f : Vc → Int) : Prop where
  l : ∀ (k : Int) (x y : Vc), f (fun i => x i + k * y i) = f x + k * f y
  b : ∀ x, (f x).natAbs ≤ g * nrm n x
theorem LinF.zero {n g : Nat} {f : Vc → Int} (h : LinF n g f) : f vz = 0 := by
  have := h.l (-1) vz vz
  have e : (fun i => (vz : Vc) i + -1 * (vz : Vc) i) = vz := by funext i; simp [vz]
  rw [e] at this
  omega
theorem LinF.mul {n g : Nat} {f : Vc → Int} (h : LinF n g f) (k : Int) (x : Vc) : f (fun i => k * x i) = k * f x := by
  have := h.l k vz x
  have e : (fun i => (vz : Vc) i + k * x i) = fun i => k * x i := by funext i; simp [vz]
  rw [e, h.zero] at this
  omega
theorem LinF.sub {n g : Nat} {f : Vc → Int} (h : LinF n g f) (a b : Int) (x y : Vc) : f (fun i => a * x i - b * y i) = a * f x - b * f y := by
  have := h.l (-b) (fun i => a * x i) y
  have e : (fun i => a * x i + -b * y i) = fun i => a * x i - b * y i := by funext i; rw [Int.neg_mul]; omega
  rw [e, h.mul, Int.neg_mul] at this
  omega
theorem LinF.sp {n g : Nat} {f : Vc → Int} (h : LinF n g f) : ∀ {m : List Vc}, (∀ r ∈ m, f r = 0) → ∀ {x}, Sp m x → f x = 0
  | [], _, x, hx => by rw [show x = vz from hx]; exact h.zero
  | r :: m, hr, x, ⟨c, hc⟩ => by
    have h1 := h.sp (fun s hs => hr s (List.mem_cons_of_mem _ hs)) hc
    have h2 := h.l (-c) x r
    have e : (fun i => x i + -c * r i) = fun i => x i - c * r i := by funext i; rw [Int.neg_mul]; omega
    rw [e, h1, hr r List.mem_cons_self] at h2
    omega

def bN (g N : Nat) : Nat → Nat
  | 0 => N
  | t + 1 => 2 * g * (bN g N t * bN g N t)
theorem bN_one (g N : Nat) : ∀ t, bN g (bN g N 1) t = bN g N (t + 1)
  | 0 => rfl
  | t + 1 => by
    show 2 * g * _ = 2 * g * _
    rw [bN_one g N t]
theorem sp_mid {A B : List Vc} {s x : Vc} (h : Sp (A ++ s :: B) x) : ∃ c : Int, Sp (A ++ B) fun i => x i - c * s i := by
  obtain ⟨y, hy, c, hc⟩ := sp_append.1 h
  refine ⟨c, sp_append.2 ⟨y, hy, ?_⟩⟩
  have e : (fun i => x i - c * s i - y i) = fun i => x i - y i - c * s i := by funext i; omega
  rw [e]; exact hc
/-- One form is made zero. -/
theorem elim_one {n g N : Nat} {f : Vc → Int} (hf : LinF n g f) (R : List Vc) (hb : ∀ r ∈ R, nrm n r ≤ N) :
    ∃ R' e, e ≤ 1 ∧ R'.length + e = R.length ∧ (∀ r ∈ R', Sp R r) ∧ (∀ r ∈ R', f r = 0) ∧ (∀ r ∈ R', nrm n r ≤ bN g N e) ∧ ∀ x, Sp R x → f x = 0 → ∃ D : Int, D ≠ 0 ∧ Sp R' fun i => D * x i := by
  by_cases hz : ∀ r ∈ R, f r = 0
  · refine ⟨R, 0, by omega, rfl, fun r hr => sp_mem hr, hz, hb, fun x hx _ => ⟨1, by decide, ?_⟩⟩
    have e : (fun i => 1 * x i) = x := by funext i; omega
    rw [e]; exact hx
  · obtain ⟨s, hs⟩ : ∃ s, s ∈ R ∧ f s ≠ 0 := Decidable.byContradiction fun hc => hz fun r hr => Decidable.byContradiction fun h => hc ⟨r, hr, h⟩
    obtain ⟨A, B, rfl⟩ := List.append_of_mem hs.1
    have hφ : Lin fun x => fun i => f s * x i - f x * s i := ⟨fun k x y => by
      funext i
      rw [hf.l]
      grind⟩
    have hin : ∀ r ∈ A ++ B, r ∈ A ++ s :: B := fun r hr => by
      rcases List.mem_append.1 hr with h | h
      · exact List.mem_append_left _ h
      · exact List.mem_append_right _ (List.mem_cons_of_mem _ h)
    refine ⟨(A ++ B).map (fun x => fun i => f s * x i - f x * s i), 1, by omega, by simp; omega, fun r hr => ?_, fun r hr => ?_, fun r hr => ?_, fun x hx h0 => ⟨f s, hs.2, ?_⟩⟩
    · obtain ⟨u, hu, rfl⟩ := List.mem_map.1 hr
      have h1 := sp_lin (-(f u)) _ _ _ (sp_mul (f s) (sp_mem (hin u hu))) (sp_mem hs.1)
      have e : (fun i => f s * u i + -(f u) * s i) = fun i => f s * u i - f u * s i := by funext i; rw [Int.neg_mul]; omega
      rwa [e] at h1
    · obtain ⟨u, hu, rfl⟩ := List.mem_map.1 hr
      rw [hf.sub, Int.mul_comm]; omega
    · obtain ⟨u, hu, rfl⟩ := List.mem_map.1 hr
      have h1 := hb u (hin u hu)
      have h2 := hb s hs.1
      have h3 := nrm_lin n (f s) (f u) u s
      have h4 : (f s).natAbs * nrm n u ≤ g * N * N := Nat.mul_le_mul (Nat.le_trans (hf.b s) (Nat.mul_le_mul_left _ h2)) h1
      have h5 : (f u).natAbs * nrm n s ≤ g * N * N := Nat.mul_le_mul (Nat.le_trans (hf.b u) (Nat.mul_le_mul_left _ h1)) h2
      show _ ≤ 2 * g * (N * N)
      rw [Nat.mul_assoc, ← Nat.mul_assoc g]
      omega
    · obtain ⟨c, hc⟩ := sp_mid hx
      refine (sp_map hφ).2 ⟨_, hc, ?_⟩
      have h1 := hf.l (-c) x s
      have e : (fun i => x i + -c * s i) = fun i => x i - c * s i := by funext i; rw [Int.neg_mul]; omega
      rw [e] at h1
      funext i
      show f s * x i = f s * (x i - c * s i) - f (fun i => x i - c * s i) * s i
      rw [h1, h0]
      grind
/-- All forms are made zero. -/
theorem elim_all {n g : Nat} : ∀ (fs : List (Vc → Int)), (∀ f ∈ fs, LinF n g f) → ∀ (R : List Vc) (N : Nat), (∀ r ∈ R, nrm n r ≤ N) →
    ∃ R' t, R'.length + t = R.length ∧ (∀ r ∈ R', Sp R r) ∧ (∀ f ∈ fs, ∀ r ∈ R', f r = 0) ∧ (∀ r ∈ R', nrm n r ≤ bN g N t) ∧ ∀ x, Sp R x → (∀ f ∈ fs, f x = 0) → ∃ D : Int, D ≠ 0 ∧ Sp R' fun i => D * x i
  | [], _, R, N, hb => ⟨R, 0, rfl, fun r hr => sp_mem hr, fun f hf => by simp at hf, hb, fun x hx _ => ⟨1, by decide, by
      have e : (fun i => 1 * x i) = x := by funext i; omega
      rw [e]; exact hx⟩⟩
  | f :: fs, hfs, R, N, hb => by
    have hf := hfs f List.mem_cons_self
    obtain ⟨R1, e, he, h1, h2, h3, h4, h5⟩ := elim_one hf R hb
    obtain ⟨R2, t, k1, k2, k3, k4, k5⟩ := elim_all fs (fun g hg => hfs g (List.mem_cons_of_mem _ hg)) R1 _ h4
    refine ⟨R2, t + e, by omega, fun r hr => sp_le h2 (k2 r hr), fun u hu r hr => ?_, fun r hr => ?_, fun x hx h0 => ?_⟩
    · rcases List.mem_cons.1 hu with rfl | hu
      · exact hf.sp h3 (k2 r hr)
      · exact k3 u hu r hr
    · have := k4 r hr
      rcases (show e = 0 ∨ e = 1 by omega) with rfl | rfl
      · exact this
      · rwa [bN_one] at this
    · obtain ⟨D, hD, q1⟩ := h5 x hx (h0 f List.mem_cons_self)
      obtain ⟨D2, hD2, q2⟩ := k5 _ q1 fun u hu => by
        rw [(hfs u (List.mem_cons_of_mem _ hu)).mul, h0 u (List.mem_cons_of_mem _ hu), Int.mul_zero]
      refine ⟨D2 * D, Int.mul_ne_zero hD2 hD, ?_⟩
      have e : (fun i => D2 * D * x i) = fun i => D2 * (D * x i) := by funext i; rw [Int.mul_assoc]
      rw [e]; exact q2
theorem sp_all_zero : ∀ {m : List Vc}, (∀ r ∈ m, r = vz) → ∀ {x}, Sp m x → x = vz
  | [], _, _, h => h
  | r :: m, hr, x, ⟨c, hc⟩ => by
    have h1 := sp_all_zero (fun s hs => hr s (List.mem_cons_of_mem _ hs)) hc
    rw [hr r List.mem_cons_self] at h1
    funext i
    have := congrFun h1 i
    have h0 : (vz : Vc) i = 0 := rfl
    rw [h0] at this ⊢
    omega
/-- A small row at which all forms are zero. -/
theorem small_vec {n g N : Nat} {fs : List (Vc → Int)} (hfs : ∀ f ∈ fs, LinF n g f) {R : List Vc} (hb : ∀ r ∈ R, nrm n r ≤ N) {x : Vc} (hx : Sp R x) (h0 : ∀ f ∈ fs, f x = 0) {p : Nat} (hp : x p ≠ 0) :
    ∃ r t, t < R.length ∧ Sp R r ∧ r ≠ vz ∧ (∀ f ∈ fs, f r = 0) ∧ nrm n r ≤ bN g N t := by
  obtain ⟨R', t, h1, h2, h3, h4, h5⟩ := elim_all fs hfs R N hb
  obtain ⟨D, hD, h6⟩ := h5 x hx h0
  have : ∃ r ∈ R', r ≠ vz := Classical.byContradiction fun hc => by
    have := sp_all_zero (fun r hr => Classical.byContradiction fun h => hc ⟨r, hr, h⟩) h6
    exact Int.mul_ne_zero hD hp (congrFun this p)
  obtain ⟨r, hr, hn⟩ := this
  exact ⟨r, t, by have := List.length_pos_of_mem hr; omega, h2 r hr, hn, fun f hf => h3 f hf r hr, h4 r hr⟩

/-- Columns of pivots. -/
def PivS (m : List Vc) (p : Nat) : Prop := ∃ s ∈ m, Piv s p
theorem ech_cols : ∀ {m : List Vc} {lo : Nat}, Ech lo m → ∃ l : List Nat, l.length = m.length ∧ l.Nodup ∧ (∀ p, p ∈ l ↔ PivS m p) ∧ ∀ p ∈ l, lo ≤ p
  | [], _, _ => ⟨[], rfl, List.nodup_nil, fun p => ⟨fun h => by simp at h, fun ⟨s, hs, _⟩ => by simp at hs⟩, fun p hp => by simp at hp⟩
  | r :: m, lo, ⟨p, hp, h0, h1, hm⟩ => by
    obtain ⟨l, q1, q2, q3, q4⟩ := ech_cols hm
    have hr : Piv r p := ⟨h0, by omega⟩
    refine ⟨p :: l, by simp [q1], List.nodup_cons.2 ⟨fun h => by have := q4 p h; omega, q2⟩, fun q => ?_, fun q hq => ?_⟩
    · rw [List.mem_cons, q3]
      constructor
      · rintro (rfl | ⟨s, hs, h⟩)
        · exact ⟨r, List.mem_cons_self, hr⟩
        · exact ⟨s, List.mem_cons_of_mem _ hs, h⟩
      · rintro ⟨s, hs, h⟩
        rcases List.mem_cons.1 hs with rfl | hs
        · exact .inl (piv_one h hr)
        · exact .inr ⟨s, hs, h⟩
    · rcases List.mem_cons.1 hq with rfl | hq
      · exact hp
      · have := q4 q hq; omega
theorem ech_none {m : List Vc} {lo : Nat} (he : Ech lo m) {x : Vc} (hx : Sp m x) (h : ∀ p, PivS m p → x p = 0) : x = vz :=
  ech_zero he hx fun s hs q hq => by
    have h1 := (ech_pos he s hs q hq).1
    have h2 := h q ⟨s, hs, hq⟩
    omega
theorem ech_mult : ∀ {m : List Vc} {lo : Nat}, Ech lo m → ∀ {x}, Sp m x → ∀ t ∈ m, ∀ q, Piv t q → (∀ p, PivS m p → p < q → x p = 0) → ∃ k, x q = k * t q
  | r :: m, lo, ⟨p, hp, h0, h1, hm⟩, x, ⟨c, hc⟩, t, ht, q, hq, hz => by
    have h2 := ech_lo hm hc p (by omega)
    rcases List.mem_cons.1 ht with rfl | ht
    · obtain rfl := piv_one hq ⟨h0, by omega⟩
      exact ⟨c, by omega⟩
    · have hpq := (ech_pos hm t ht q hq).2
      have h3 := hz p ⟨r, List.mem_cons_self, h0, by omega⟩ (by omega)
      have h4 : c * r p = 0 := by omega
      have hc0 : c = 0 := by
        rcases Int.mul_eq_zero.1 h4 with h | h
        · exact h
        · omega
      subst hc0
      have e : (fun i => x i - 0 * r i) = x := by funext i; omega
      rw [e] at hc
      exact ech_mult hm hc t ht q hq fun p' hp' => hz p' (by obtain ⟨s, hs, h⟩ := hp'; exact ⟨s, List.mem_cons_of_mem _ hs, h⟩)
theorem ech_dual_aux {r : Vc} {m : List Vc} {p : Nat} (h1 : r p ≠ 0) (hp : ∀ x, Sp m x → x p = 0) (hd : ∀ q, PivS m q → ∃ x, Sp m x ∧ x q ≠ 0 ∧ ∀ q', PivS m q' → q' ≠ q → x q' = 0) :
    ∀ l : List Nat, (∀ q ∈ l, PivS m q) → ∃ y, Sp (r :: m) y ∧ y p ≠ 0 ∧ ∀ q ∈ l, y q = 0
  | [], _ => ⟨r, sp_mem List.mem_cons_self, h1, fun q hq => by simp at hq⟩
  | q :: l, hl => by
    obtain ⟨y, y1, y2, y3⟩ := ech_dual_aux h1 hp hd l fun s hs => hl s (List.mem_cons_of_mem _ hs)
    obtain ⟨z, z1, z2, z3⟩ := hd q (hl q List.mem_cons_self)
    refine ⟨fun i => z q * y i + -(y q) * z i, sp_lin _ _ _ _ (sp_mul _ y1) (sp_tail z1), ?_, fun s hs => ?_⟩
    · show z q * y p + -(y q) * z p ≠ 0
      rw [hp z z1, Int.mul_zero, Int.add_zero]
      exact Int.mul_ne_zero z2 y2
    · show z q * y s + -(y q) * z s = 0
      by_cases e : s = q
      · rw [e, Int.neg_mul, Int.mul_comm]; omega
      · rcases List.mem_cons.1 hs with h | h
        · exact absurd h e
        · rw [y3 s h, z3 s (hl s (List.mem_cons_of_mem _ h)) e]; omega
theorem ech_dual : ∀ {m : List Vc} {lo : Nat}, Ech lo m → ∀ p, PivS m p → ∃ x, Sp m x ∧ x p ≠ 0 ∧ ∀ q, PivS m q → q ≠ p → x q = 0
  | [], _, _, p, ⟨s, hs, _⟩ => by simp at hs
  | r :: m, lo, ⟨p0, hp0, h0, h1, hm⟩, p, ⟨s, hs, h⟩ => by
    have hlo : ∀ x, Sp m x → x p0 = 0 := fun x hx => ech_lo hm hx p0 (by omega)
    have hr : Piv r p0 := ⟨h0, by omega⟩
    have hex : ∀ q, PivS (r :: m) q → q = p0 ∨ PivS m q := fun q ⟨u, hu, h⟩ => by
      rcases List.mem_cons.1 hu with rfl | hu
      · exact .inl (piv_one h hr)
      · exact .inr ⟨u, hu, h⟩
    by_cases e : p = p0
    · subst e
      obtain ⟨l, _, _, q3, _⟩ := ech_cols hm
      obtain ⟨y, y1, y2, y3⟩ := ech_dual_aux (r := r) (by omega) hlo (fun q hq => ech_dual hm q hq) l fun q hq => (q3 q).1 hq
      exact ⟨y, y1, y2, fun q hq hne => y3 q ((q3 q).2 ((hex q hq).resolve_left hne))⟩
    · obtain ⟨x, x1, x2, x3⟩ := ech_dual hm p ((hex p ⟨s, hs, h⟩).resolve_left e)
      refine ⟨x, sp_tail x1, x2, fun q hq hne => ?_⟩
      rcases hex q hq with rfl | h2
      · exact hlo x x1
      · exact x3 q h2 hne

theorem bound_aux {m : List Vc} (he : Ech 0 m) (v : Nat → Vc) (X : Nat) (hv : ∀ p, PivS m p → Sp m (v p) ∧ v p p ≠ 0 ∧ (∀ q, PivS m q → q ≠ p → v p q = 0) ∧ ∀ c, (v p c).natAbs ≤ X) :
    ∀ (l : List Nat), (∀ p ∈ l, PivS m p) → ∀ (x : Vc) (N : Nat), Sp m x → (∀ p, PivS m p → p ∉ l → x p = 0) → (∀ p ∈ l, (x p).natAbs ≤ N * (v p p).natAbs) → ∀ c, (x c).natAbs ≤ N * (l.length * X)
  | [], _, x, N, hx, h0, _, c => by
    rw [ech_none he hx fun p hp => h0 p hp (by simp)]
    show (0 : Int).natAbs ≤ _
    simp
  | t :: l, hl, x, N, hx, h0, hb, c => by
    obtain ⟨v1, v2, v3, v4⟩ := hv t (hl t List.mem_cons_self)
    have hpos : 0 < (v t t).natAbs := by omega
    have ih := bound_aux he v X hv l (fun p hp => hl p (List.mem_cons_of_mem _ hp)) (fun i => v t t * x i + -(x t) * v t i) (N * (v t t).natAbs) (sp_lin _ _ _ _ (sp_mul _ hx) v1) (fun p hp hn => by
      show v t t * x p + -(x t) * v t p = 0
      by_cases e : p = t
      · rw [e, Int.neg_mul, Int.mul_comm]; omega
      · rw [h0 p hp (fun h => by rcases List.mem_cons.1 h with h | h; exact e h; exact hn h), v3 p hp e]; omega) (fun p hp => by
      show (v t t * x p + -(x t) * v t p).natAbs ≤ _
      by_cases e : p = t
      · have : v t t * x p + -(x t) * v t p = 0 := by rw [e, Int.neg_mul, Int.mul_comm]; omega
        rw [this]; simp
      · rw [v3 p (hl p (List.mem_cons_of_mem _ hp)) e, Int.mul_zero, Int.add_zero, Int.natAbs_mul, Nat.mul_comm N, Nat.mul_assoc]
        exact Nat.mul_le_mul_left _ (hb p (List.mem_cons_of_mem _ hp))) c
    have h1 := hb t List.mem_cons_self
    have h2 := v4 c
    have h3 : (v t t * x c).natAbs ≤ (v t t * x c + -(x t) * v t c).natAbs + (x t).natAbs * (v t c).natAbs := by
      rw [← Int.natAbs_mul, Int.neg_mul]; omega
    have h4 : (x t).natAbs * (v t c).natAbs ≤ N * (v t t).natAbs * X := Nat.mul_le_mul h1 h2
    have h5 : (v t t).natAbs * (x c).natAbs ≤ (v t t).natAbs * (N * ((l.length + 1) * X)) := by
      rw [← Int.natAbs_mul]
      have e1 : (v t t).natAbs * (N * ((l.length + 1) * X)) = N * (v t t).natAbs * (l.length * X) + N * (v t t).natAbs * X := by
        rw [Nat.add_mul, Nat.one_mul, Nat.mul_add, Nat.mul_add]
        congr 1 <;> ac_rfl
      omega
    exact Nat.le_of_mul_le_mul_left h5 hpos
/-- The numbers of a normal form, by small rows for its pivots. -/
theorem hnf_bound {m : List Vc} (he : Ech 0 m) (hr : Redu m) (X : Nat) (hv : ∀ p, PivS m p → ∃ v, Sp m v ∧ v ≠ vz ∧ (∀ q, PivS m q → q ≠ p → v q = 0) ∧ ∀ c, (v c).natAbs ≤ X) : ∀ r ∈ m, ∀ c, (r c).natAbs ≤ m.length * X := by
  intro r hrm c
  have hv2 : ∀ p, ∃ v, PivS m p → Sp m v ∧ v p ≠ 0 ∧ (∀ q, PivS m q → q ≠ p → v q = 0) ∧ ∀ c, (v c).natAbs ≤ X := fun p => by
    by_cases hp : PivS m p
    · obtain ⟨v, v1, v2, v3, v4⟩ := hv p hp
      refine ⟨v, fun _ => ⟨v1, fun h => v2 (ech_none he v1 fun q hq => ?_), v3, v4⟩⟩
      by_cases e : q = p
      · rw [e]; exact h
      · exact v3 q hq e
    · exact ⟨vz, fun h => absurd h hp⟩
  obtain ⟨l, q1, _, q3, _⟩ := ech_cols he
  obtain ⟨V, hV⟩ := Classical.axiomOfChoice hv2
  have red : ∀ {m : List Vc} {lo : Nat}, Ech lo m → Redu m → ∀ r ∈ m, ∀ t ∈ m, ∀ q, Piv t q → (r q).natAbs ≤ (t q).natAbs := by
    intro m
    induction m with
    | nil => intro lo _ _ r hr; simp at hr
    | cons s m ih =>
      rintro lo ⟨p, hp, h0, h1, hm⟩ ⟨h2, h3⟩ r hr t ht q hq
      rcases List.mem_cons.1 hr with rfl | hr2
      · rcases List.mem_cons.1 ht with rfl | ht2
        · exact Nat.le_refl _
        · have := h2 t ht2 q hq; omega
      · rcases List.mem_cons.1 ht with rfl | ht2
        · obtain rfl := piv_one hq ⟨h0, by omega⟩
          have := ech_lo hm (sp_mem hr2) q (by omega)
          omega
        · exact ih hm h3 r hr2 t ht2 q hq
  have := bound_aux he V X (fun p hp => hV p hp) l (fun p hp => (q3 p).1 hp) r 1 (sp_mem hrm) (fun p hp hn => absurd ((q3 p).2 hp) hn) (fun p hp => by
    obtain ⟨t, ht, htp⟩ := (q3 p).1 hp
    have h1 := red he hr r hrm t ht p htp
    obtain ⟨v1, v2, v3, _⟩ := hV p ⟨t, ht, htp⟩
    obtain ⟨k, hk⟩ := ech_mult he v1 t ht p htp fun p' hp' hlt => v3 p' hp' (by omega)
    have hk0 : k ≠ 0 := fun h => v2 (by rw [hk, h]; omega)
    have h2 : (t p).natAbs ≤ (V p p).natAbs := by
      rw [hk, Int.natAbs_mul]
      exact Nat.le_mul_of_pos_left _ (by omega)
    omega) c
  rw [q1] at this
  omega

theorem co_lin {n q : Nat} (h : q < n) : LinF n 1 fun x => x q := ⟨fun _ _ _ => rfl, fun x => by rw [Nat.one_mul]; exact nrm_le n x q h⟩
/-- Of rows, and of what some multiple of belongs to them. -/
theorem sat_bound {R m : List Vc} {n N X : Nat} (he : Ech 0 m) (hr : Redu m) (hs : ∀ x, Sp m x → Supp n x) (hR : ∀ r ∈ R, nrm n r ≤ N) (h1 : ∀ x, Sp R x → Sp m x) (h2 : ∀ x, Sp m x → ∃ D : Int, D ≠ 0 ∧ Sp R fun i => D * x i) (hX : ∀ t, t < R.length → bN 1 N t ≤ X) :
    ∀ r ∈ m, ∀ c, (r c).natAbs ≤ m.length * X := by
  refine hnf_bound he hr X fun p hp => ?_
  obtain ⟨l, _, _, q3, _⟩ := ech_cols he
  obtain ⟨x, x1, x2, x3⟩ := ech_dual he p hp
  obtain ⟨D, hD, hx⟩ := h2 x x1
  have hlt : ∀ q, PivS m q → q < n := fun q ⟨s, hs2, hq⟩ => Nat.lt_of_not_le fun hc => hq.2 (hs s (sp_mem hs2) q hc)
  have hfs : ∀ f ∈ (l.filter (fun q => decide (q ≠ p))).map (fun q (x : Vc) => x q), LinF n 1 f := fun f hf => by
    obtain ⟨q, hq, rfl⟩ := List.mem_map.1 hf
    exact co_lin (hlt q ((q3 q).1 (List.mem_filter.1 hq).1))
  obtain ⟨r, t, ht, r1, r2, r3, r4⟩ := small_vec hfs hR hx (p := p) (fun f hf => by
    obtain ⟨q, hq, rfl⟩ := List.mem_map.1 hf
    obtain ⟨g1, g2⟩ := List.mem_filter.1 hq
    show D * x q = 0
    rw [x3 q ((q3 q).1 g1) (of_decide_eq_true g2), Int.mul_zero]) (Int.mul_ne_zero hD x2)
  refine ⟨r, h1 r r1, r2, fun q hq hne => r3 (fun x => x q) (List.mem_map.2 ⟨q, List.mem_filter.2 ⟨(q3 q).2 hq, decide_eq_true hne⟩, rfl⟩), fun c => ?_⟩
  rcases Nat.lt_or_ge c n with h | h
  · exact Nat.le_trans (nrm_le n r c h) (Nat.le_trans r4 (hX t ht))
  · rw [hs r (h1 r r1) c h]; simp

/-- A multiple of each member of the double annihilator belongs to the lattice. -/
theorem perp_perp_q {A : List Vc} {n : Nat} (hA : ¬ Dep A) (nA : ∀ x, Sp A x → Supp n x) (x : Vc) (hx : Perp n (Perp n (Sp A)) x) : ∃ D : Int, D ≠ 0 ∧ Sp A fun i => D * x i := by
  obtain ⟨P, p1, p2⟩ := ech_exists (perp_lat n (Sp A)) n perp_supp n 0 (by omega)
  have p3 : ∀ y, Sp P y ↔ Perp n (Sp A) y := fun y => (p2 y).trans ⟨fun h => h.1, fun h => ⟨h, fun j hj => absurd hj (Nat.not_lt_zero _)⟩⟩
  obtain ⟨Q, r1, r2⟩ := ech_exists (perp_lat n (Sp P)) n perp_supp n 0 (by omega)
  have r3 : ∀ y, Sp Q y ↔ Perp n (Sp P) y := fun y => (r2 y).trans ⟨fun h => h.1, fun h => ⟨h, fun j hj => absurd hj (Nat.not_lt_zero _)⟩⟩
  have k1 := rank_perp hA (ech_ind p1) nA p3
  have k2 := rank_perp (ech_ind p1) (ech_ind r1) (fun y hy => ((p3 y).1 hy).1) r3
  have hpp : ∀ y, Perp n (Sp P) y ↔ Perp n (Perp n (Sp A)) y := perp_congr p3
  obtain ⟨cs, hl, hc, h0⟩ := steinitz Q (x :: A) (by simp; omega) fun v hv => (r3 v).2 ((hpp v).2 (by
    rcases List.mem_cons.1 hv with rfl | hv
    · exact hx
    · exact perp_in nA (sp_mem hv)))
  match cs, hl with
  | c :: ds, hl =>
    have hl2 : ds.length = A.length := by simpa using hl
    have e : ∀ i, c * x i + lc ds A i = 0 := fun i => congrFun h0 i
    have hc0 : c ≠ 0 := fun h => hA ⟨ds, hl2, by
      obtain ⟨d, hd, hd0⟩ := hc
      rcases List.mem_cons.1 hd with rfl | hd
      · exact absurd h hd0
      · exact ⟨d, hd, hd0⟩, by
      funext i
      have := e i
      rw [h] at this
      have hz : (vz : Vc) i = 0 := rfl
      omega⟩
    refine ⟨c, hc0, ?_⟩
    have h1 := sp_mul (-1) (sp_lc.2 ⟨ds, hl2, rfl⟩)
    have e2 : (fun i => -1 * lc ds A i) = fun i => c * x i := by funext i; have := e i; omega
    rwa [e2] at h1

end Go.Proofs.YtepicfdhphiiaaaGreatDoor

/- Temperaments as pairs of normal forms: join, meet, ranks, plain. -/
namespace Go.Proofs.YtepicfdhphiiaaaGreatDoor

/-- Commas and mapping of a temperament. -/
structure TemOk (n : Nat) (C M : List (List Int)) : Prop where
  hc : IsHnf C
  hm : IsHnf M
  rc : Rect n C
  rm : Rect n M
  fc : ∀ i, i < C.length → ∀ j, j < n → (ent C i j).natAbs ≤ 1000000000
  fm : ∀ i, i < M.length → ∀ j, j < n → (ent M i j).natAbs ≤ 1000000000
  pm : ∀ y, Sp (vfs M) y ↔ Perp n (Sp (vfs C)) y
  pc : ∀ y, Sp (vfs C) y ↔ Perp n (Sp (vfs M)) y
variable {n : Nat} {C M C' M' A MA B MB D MD : List (List Int)}
theorem TemOk.len (h : TemOk n C M) : C.length + M.length = n := by
  have := rank_perp (ech_ind h.hc.e) (ech_ind h.hm.e) (rect_supp h.rc) h.pm
  simpa [vfs] using this
theorem TemOk.closed (h : TemOk n C M) : Closed n (Sp (vfs C)) := ⟨rect_supp h.rc, fun x hx => (h.pc x).2 ((perp_congr h.pm x).2 hx)⟩
theorem TemOk.same (h : TemOk n C M) (h' : TemOk n C' M') (hs : ∀ y, Sp (vfs C) y ↔ Sp (vfs C') y) : C = C' ∧ M = M' :=
  ⟨hnf_same h.hc h'.hc h.rc h'.rc hs, hnf_same h.hm h'.hm h.rm h'.rm fun y => (h.pm y).trans ((perp_congr hs y).trans (h'.pm y).symm)⟩
/-- D is the join of A and B. -/
def JoiR (n : Nat) (A B D : List (List Int)) : Prop := ∀ y, Sp (vfs D) y ↔ Joi n (Sp (vfs A)) (Sp (vfs B)) y
/-- D is the meet of A and B. -/
def MeeR (A B D : List (List Int)) : Prop := ∀ y, Sp (vfs D) y ↔ Sp (vfs A) y ∧ Sp (vfs B) y
theorem ranks {J MJ U MU : List (List Int)} (hA : TemOk n A MA) (hB : TemOk n B MB) (hJ : TemOk n J MJ) (hU : TemOk n U MU) (h1 : JoiR n A B J) (h2 : MeeR A B U) : MA.length + MB.length = MJ.length + MU.length := by
  have hs := sum_supp (rect_supp hA.rc) (rect_supp hB.rc)
  obtain ⟨E, e1, e2⟩ := ech_exists (sum_lat (sp_lat (vfs A)) (sp_lat (vfs B))) n hs n 0 (by omega)
  have e3 : ∀ x, Sp E x ↔ SumL (Sp (vfs A)) (Sp (vfs B)) x := fun x => (e2 x).trans ⟨fun h => h.1, fun h => ⟨h, fun j hj => absurd hj (Nat.not_lt_zero _)⟩⟩
  have := rank_law (ech_ind hA.hc.e) (ech_ind hB.hc.e) (ech_ind e1) (ech_ind hU.hc.e) (ech_ind hA.hm.e) (ech_ind hB.hm.e) (ech_ind hJ.hm.e) (ech_ind hU.hm.e) (rect_supp hA.rc) (rect_supp hB.rc) e3 h2 hA.pm hB.pm
    (fun y => (hJ.pm y).trans ((perp_congr h1 y).trans ((joi_perp (rect_supp hA.rc) (rect_supp hB.rc) y).trans (perp_congr (fun x => (e3 x).symm) y)))) hU.pm
  simpa [vfs] using this

end Go.Proofs.YtepicfdhphiiaaaGreatDoor

/- The lattices of a plan have small numbers, plain. -/
namespace Go.Proofs.YtepicfdhphiiaaaGreatDoor

theorem nrm_nine {x : Vc} (h : ∀ i, (x i).natAbs ≤ 9) : ∀ n, nrm n x ≤ 9 * n
  | 0 => Nat.zero_le _
  | n + 1 => by
    have := nrm_nine h n
    have := h n
    show nrm n x + _ ≤ _
    omega
theorem bn_rows : ∀ t, t < 3 → bN 1 36 t ≤ 13436928 := by decide
theorem vf_nine {R : List (List Int)} (h : ∀ r ∈ R, ∀ x ∈ r, x.natAbs ≤ 9) : ∀ r ∈ vfs R, ∀ i, (r i).natAbs ≤ 9 := fun r hr i => by
  obtain ⟨s, hs, rfl⟩ := List.mem_map.1 hr
  unfold vf
  rw [List.getD_eq_getElem?_getD]
  rcases Nat.lt_or_ge i s.length with hi | hi
  · rw [List.getElem?_eq_getElem hi]
    exact h s hs _ (List.getElem_mem hi)
  · rw [List.getElem?_eq_none hi]; decide
theorem ent_of_vf {B : List (List Int)} {X : Nat} (h : ∀ r ∈ vfs B, ∀ c, (r c).natAbs ≤ X) : ∀ i, i < B.length → ∀ j, (ent B i j).natAbs ≤ X := fun i hi j =>
  h (vf (B.getD i [])) (List.mem_map.2 ⟨_, lrow_mem hi, rfl⟩) j
theorem hnf_len {n : Nat} {B : List (List Int)} (h : IsHnf B) (hr : Rect n B) : B.length ≤ n := by
  obtain ⟨P, p1, p2⟩ := ech_exists (perp_lat n (Sp (vfs B))) n perp_supp n 0 (by omega)
  have := rank_perp (ech_ind h.e) (ech_ind p1) (rect_supp hr) fun y => (p2 y).trans ⟨fun h => h.1, fun h => ⟨h, fun j hj => absurd hj (Nat.not_lt_zero _)⟩⟩
  have e : (vfs B).length = B.length := by simp [vfs]
  omega
theorem plan_of {n : Nat} {R B : List (List Int)} (hn : n ≤ 4) (hl : R.length ≤ 3) (h9 : ∀ r ∈ R, ∀ x ∈ r, x.natAbs ≤ 9) (hB : IsHnf B) (hr : Rect n B) (h1 : ∀ x, Sp (vfs R) x → Sp (vfs B) x) (h2 : ∀ x, Sp (vfs B) x → ∃ D : Int, D ≠ 0 ∧ Sp (vfs R) fun i => D * x i) :
    ∀ i, i < B.length → ∀ j, (ent B i j).natAbs ≤ 1000000000 := by
  have hv := vf_nine h9
  have := sat_bound (n := n) (N := 36) (X := 13436928) hB.e hB.r (rect_supp hr) (fun r hr => by
    have := nrm_nine (hv r hr) n
    omega) h1 h2 (fun t ht => bn_rows t (by simp [vfs] at ht; omega))
  have hb := hnf_len hB hr
  refine ent_of_vf fun r hr c => ?_
  have h3 := this r hr c
  have e : (vfs B).length = B.length := by simp [vfs]
  rw [e] at h3
  omega
end Go.Proofs.YtepicfdhphiiaaaGreatDoor

/- hermite.isForm, IsForm, lattice.Check on right lattices. -/
namespace Go.Proofs.YtepicfdhphiiaaaGreatDoor
open Go.RowKit

theorem rd_at {w : World} {a : Option Addr} {xs : List Int} (h : Rd w a (ints xs)) {p : Nat} (hp : p < xs.length) : ∃ b off, a = some ⟨b, off, none⟩ ∧ w.cell? ⟨b, off + p, none⟩ = some (.int .i64 (xs.getD p 0)) := by
  obtain ⟨b, off, e, hb, hc⟩ := h.open (by rw [ints_length]; omega)
  exact ⟨b, off, e, hc p _ (by rw [ints_get _ _ hp, List.getD_eq_getElem?_getD, List.getElem?_eq_getElem hp]; rfl)⟩

theorem isForm1_ok (w : World) (a ar : Option Addr) (c cr n p : Nat) (xs rs : List Int) (hx : Rd w a (ints xs)) (hr : Rd w ar (ints rs)) (l1 : xs.length = n) (l2 : rs.length = n) (hp : p < n) (_hn : n ≤ 1000) (bp br : Nat)
    (kp : w.heap[bp]? = some (.cells #[.int .i64 p] 3 (0, 0))) (kr : w.heap[br]? = some (.cells #[.slice ar n cr] 54 (0, 0))) (h1 : 0 ≤ xs.getD p 0) (h2 : xs.getD p 0 < rs.getD p 0) :
    Gives Tryz.prog 144 #[.slice a n c, .pointer (some ⟨bp, 0, none⟩), .pointer (some ⟨br, 0, none⟩)] w (.bool false) := by
  unfold Gives
  obtain ⟨b, off, rfl, x0⟩ := rd_at hx (p := p) (by omega)
  obtain ⟨b2, off2, rfl, y0⟩ := rd_at hr (p := p) (by omega)
  obtain ⟨m1, -⟩ := one_cell kp
  obtain ⟨m2, -⟩ := one_cell kr
  clear hx hr l1 l2 kp kr
  generalize xs.getD p 0 = x at *
  generalize rs.getD p 0 = y at *
  have g1 : decide (x < 0) = false := decide_eq_false (by omega)
  have g2 : decide (y ≤ x) = false := decide_eq_false (by omega)
  have g3 : (p : Int) < n := by omega
  clear h1 h2
  go_enter Tryz.func144, Tryz.ntmps144
  go_wp2_with fail
  go_quiet (fail)
  go_wp2
  go_ret
  exact ⟨rfl, below_dn (Below.refl _ _) _⟩

/-- A normal form is one. -/
theorem isForm_ok (w : World) (a : Option Addr) (c n : Nat) (rows : List (List Int)) (hr : RdM w a rows) (hh : IsHnf rows) (hrect : Rect n rows) (hl : rows.length ≤ 1000) (hc : rows.length ≤ c) (hn : n ≤ 1000) :
    Gives Tryz.prog 113 #[.slice a rows.length c] w (.bool true) := by
  unfold Gives
  obtain ⟨p, hp⟩ := hh.pvs hrect
  have hI := hr.rdi
  obtain ⟨A, hA, hrow⟩ := hr
  have Hc := Lib.hid (fun (hpos : 0 < rows.length) W (hW : Below w.heap.size w W) => by
    obtain ⟨b, off, e, hb, hcell⟩ := hA.open (by simpa using hpos)
    exact (⟨b, off, e, fun i (hi2 : i < rows.length) => (hW.cell (p := ⟨b, off + i, none⟩) hb).trans (hcell i _ (by rw [List.getElem?_map, List.getElem?_range hi2]; rfl))⟩ : ∃ b off, a = some ⟨b, off, none⟩ ∧ ∀ i, i < rows.length → W.cell? ⟨b, off + i, none⟩ = some (.slice (A i).1 (rows.getD i []).length (A i).2)))
  have Hlen : Hid (∀ i, i < rows.length → (rows.getD i []).length = n) := fun i hi2 => hrect _ (lrow_mem hi2)
  have HP := Lib.hid (fun i (hi : i < rows.length) W (hW : Below w.heap.size w W) => by
    have := pivot_any W (A i).1 (A i).2 (rows.getD i []) ((hrow i hi).below hW (Nat.le_refl _)) (by rw [rect_len hrect hi]; omega) (p i) (fun j hj => hp.z i hi j hj) (by have := hp.pos i hi; unfold ent at this; omega)
    rw [rect_len hrect hi] at this
    exact this)
  have HV := Lib.hid (fun i (hi : i < rows.length) W (hW : Below w.heap.size w W) => by
    have h1 := hp.pos i hi
    obtain ⟨b, off, e, hcell⟩ := rd_at ((hrow i hi).below hW (Nat.le_refl _)) (p := p i) (by rw [rect_len hrect hi]; exact hp.lt i hi)
    exact (⟨b, off, _, e, hcell, h1⟩ : ∃ b off z, (A i).1 = some ⟨b, off, none⟩ ∧ W.cell? ⟨b, off + p i, none⟩ = some (.int .i64 z) ∧ 0 < z))
  have HQ := Lib.hid (fun i (hi : i < rows.length) W (hW : Below w.heap.size w W) (bp br : Nat) (kp : W.heap[bp]? = some (Obj.cells #[.int .i64 (p i)] 3 (0, 0))) (kr : W.heap[br]? = some (Obj.cells #[.slice (A i).1 n (A i).2] 54 (0, 0))) => by
    have := conM_any W a c (rows.take i) ((hI.below hW (Nat.le_refl _)).take i) (by rw [List.length_take]; omega) 144 #[.pointer (some ⟨bp, 0, none⟩), .pointer (some ⟨br, 0, none⟩)] (enter_of Tryz.func144 (by kernel_rfl) rfl) (fun _ => false) fun W2 hW2 x hx a' c' hxr => by
      obtain ⟨k, hk, rfl⟩ := mem_lrow hx
      rw [List.length_take] at hk
      have e : (rows.take i).getD k [] = rows.getD k [] := by rw [List.getD_eq_getElem?_getD, List.getElem?_take, if_pos (by omega), ← List.getD_eq_getElem?_getD]
      rw [e] at hxr ⊢
      rw [rect_len hrect (by omega)]
      have h1 := hp.red k i (by omega) hi
      exact isForm1_ok W2 a' (A i).1 c' (A i).2 n (p i) (rows.getD k []) (rows.getD i []) hxr ((hrow i hi).below (hW.trans (hW2.mono hW.size)) (Nat.le_refl _)) (rect_len hrect (by omega)) (rect_len hrect hi) (hp.lt i hi) hn bp br ((hW2.block bp ((Array.getElem?_eq_some_iff.1 kp).1)).trans kp) ((hW2.block br ((Array.getElem?_eq_some_iff.1 kr).1)).trans kr) h1.1 h1.2
    rw [List.length_take, Nat.min_eq_left (Nat.le_of_lt hi), List.any_eq_false.2 (fun _ _ => by simp)] at this
    exact this)
  have HUp := Lib.hid (fun i (h : i + 1 < rows.length) => hp.up i (i + 1) (by omega) h)
  have HLt := Lib.hid (fun i (h : i < rows.length) => hp.lt i h)
  clear hA hrow hI hh hrect
  obtain ⟨m, hm⟩ : ∃ m, rows.length = m := ⟨_, rfl⟩
  rw [hm] at hl hc Hc Hlen HP HV HQ HUp HLt ⊢
  clear hm hp
  by_cases hm0 : m = 0
  · subst hm0
    clear Hc Hlen HP HV HQ HUp HLt
    go_enter Tryz.func113, Tryz.ntmps113
    go_wp2_with fail
    go_loopw [9] (fun z wr => z = .int .i64 0 ∧ wr = w) (fun _ _ => 0)
    case atStart => exact ⟨rfl, rfl⟩
    case round =>
      obtain ⟨rfl, rfl⟩ := hrel
      go_wp2_with fail
      go_ret
      exact ⟨rfl, Below.refl _ _⟩
  · obtain ⟨b, off, rfl, -⟩ := Hc.out (by omega) w (Below.refl _ _)
    have Hk : Hid (∀ W, Below w.heap.size w W → ∀ i, i < m → W.cell? ⟨b, off + i, none⟩ = some (.slice (A i).1 n (A i).2)) := fun W hW i hi2 => by
      obtain ⟨b', off', e, h⟩ := Hc.out (by omega) W hW
      simp only [Option.some.injEq, Addr.mk.injEq, and_true] at e
      obtain ⟨rfl, rfl⟩ := e
      rw [h i hi2, Hlen.out i hi2]
    clear Hc
    go_enter Tryz.func113, Tryz.ntmps113
    go_wp2_with fail
    go_loopw [3, 9] (fun y z wr => ∃ (t : Nat) (bf : Int), t ≤ m ∧ z = .int .i64 t ∧ y = .int .i64 bf ∧ Hid (t < m → bf < p t) ∧ Hid (Below w.heap.size w wr)) (fun _ z _ => m - (intOf z).toNat)
    case atStart => exact ⟨0, -1, Nat.zero_le _, rfl, rfl, fun _ => by omega, Below.refl _ _⟩
    case round =>
      obtain ⟨t, bf, ht, rfl, rfl, HB, D⟩ := hrel
      by_cases hlt : t < m
      · have hlt' : (t : Int) < m := by omega
        have hltt : decide (t < m) = true := decide_eq_true hlt
        have ct := Hk.out wr D.out t hlt
        have hpl : (p t : Int) < n := by have := HLt.out t hlt; omega
        have hb1 : decide ((p t : Int) ≤ bf) = false := decide_eq_false (by have := HB.out hlt; omega)
        have D1 := Lib.hid (D.out.alloc D.out.size (.cells #[.slice (A t).1 n (A t).2] 54))
        have K1 := Lib.hid (heap_at wr #[.slice (A t).1 n (A t).2] 54 _ rfl)
        have HPt := Lib.hid (HP.out t hlt _ D1.out)
        go_wp2_with fail
        generalize wr.alloc (.cells #[.slice (A t).1 n (A t).2] 54) = w1 at *
        refine Calls.mono HPt.out ?_
        rintro e w2 ⟨rfl, hb2⟩
        have S2 : Hid (wr.heap.size < w2.heap.size) := by
          have h1 := (Array.getElem?_eq_some_iff.1 K1.out).1
          have := hb2.size
          show _ < _
          omega
        have D2 := Lib.hid (D1.out.trans (hb2.mono D1.out.size))
        have K2 := Lib.hid ((hb2.block _ ((Array.getElem?_eq_some_iff.1 K1.out).1)).trans K1.out)
        have D3 := Lib.hid (D2.out.alloc D2.out.size (.cells #[.int .i64 (p t)] 3))
        have K3 := Lib.hid (heap_old K2.out (.cells #[.int .i64 (p t)] 3))
        have P3 := Lib.hid (heap_at w2 #[.int .i64 (p t)] 3 _ rfl)
        have HQt := Lib.hid (HQ.out t hlt _ D3.out _ _ P3.out K3.out)
        obtain ⟨b3, off3, z3, e3, c3, z3p⟩ := HV.out t hlt _ D3.out
        have k3 := (one_cell K3.out).1
        rw [e3] at k3
        have p3 := (one_cell P3.out).1
        clear hb2 D1 K1 HPt D2 K2
        go_wp2_with fail
        generalize (w2.alloc (.cells #[.int .i64 (p t)] 3)) = w3 at *
        refine Calls.mono HQt.out ?_
        rintro e w4 ⟨rfl, hb4⟩
        have D4 := Lib.hid (D3.out.trans (hb4.mono D3.out.size))
        have p4 := (one_cell (heap_kept P3.out hb4 (Nat.le_refl _))).1
        clear hb4 D3 K3 P3 HQt k3 p3 c3 D
        go_wp2_with fail
        go_roundw
        case rel => exact ⟨t + 1, p t, by omega, by go_num, rfl, fun h => by have := HUp.out t h; omega, D4⟩
        case measure => simp [intOf]; omega
      · have hlt' : ¬ (t : Int) < m := by omega
        have hltt : decide (t < m) = false := decide_eq_false hlt
        obtain rfl : m = t := by omega
        go_wp2_with fail
        go_ret
        exact ⟨rfl, D.out⟩

/-- A right lattice. -/
structure LatR (n : Nat) (rows : List (List Int)) : Prop where
  h : IsHnf rows
  r : Rect n rows
  e : ∀ i, i < rows.length → ∀ j, j < n → Fit (ent rows i j)
theorem LatR.nine {n : Nat} {rows : List (List Int)} (R : LatR n rows) : ∀ i, i < rows.length → ∀ j, (ent rows i j).natAbs ≤ 10 ^ 9 := fun i hi j => by
  rcases Nat.lt_or_ge j n with h | h
  · exact R.e i hi j h
  · have : ent rows i j = 0 := vf_supp (rect_len R.r hi) j h
    rw [this]; simp
theorem LatR.mem {n : Nat} {rows : List (List Int)} (R : LatR n rows) : ∀ r ∈ rows, ∀ x ∈ r, x.natAbs ≤ 10 ^ 9 := fun r hr x hx => by
  obtain ⟨i, hi, rfl⟩ := mem_lrow hr
  obtain ⟨j, hj, rfl⟩ := List.mem_iff_getElem.1 hx
  have := R.nine i hi j
  unfold ent at this
  rwa [List.getD_eq_getElem?_getD (l := rows.getD i []), List.getElem?_eq_getElem hj] at this
theorem LatR.i64 {n : Nat} {rows : List (List Int)} (R : LatR n rows) : ∀ r ∈ rows, I64s r := fun r hr x hx => by
  have := R.mem r hr x hx
  omega
theorem LatR.len {n : Nat} {rows : List (List Int)} (R : LatR n rows) : rows.length ≤ n := hnf_len R.h R.r
theorem LatR.code {n : Nat} {rows : List (List Int)} (R : LatR n rows) (hn : n ≤ 12) : latcode n rows = 0 := by
  have := R.len
  unfold latcode
  rw [if_neg (by omega), if_neg (by omega), acode_zero]
  intro r hr
  refine ⟨rcode_zero.2 ⟨by rw [R.r r hr]; omega, fun x hx => ?_⟩, R.r r hr⟩
  have := R.mem r hr x hx
  unfold rfit
  omega
theorem IsForm_ok (w : World) (a : Option Addr) (c n : Nat) (rows : List (List Int)) (hr : RdM w a rows) (R : LatR n rows) (hc : rows.length ≤ c) (hn : n ≤ 12) :
    Gives Tryz.prog 73 #[.slice a rows.length c] w (.tuple #[.bool true, .int .i64 0]) := by
  unfold Gives
  have HT := Lib.hid (tableCheck_ok w a c n rows hr (R.code hn))
  have HI := Lib.hid (fun W (hW : Below w.heap.size w W) => isForm_ok W a c n rows (hr.below hW (Nat.le_refl _)) R.h R.r (by have := R.len; omega) hc (by omega))
  clear hr hc R
  generalize rows.length = m at *
  go_enter Tryz.func73, Tryz.ntmps73
  go_wp2_with fail
  refine Calls.mono HT.out ?_
  rintro e w1 ⟨rfl, hb1⟩
  have B1 := Lib.hid hb1
  clear hb1 HT
  go_wp2_with fail
  refine Calls.mono (HI.out w1 B1.out) ?_
  rintro e w2 ⟨rfl, hb2⟩
  have B2 := Lib.hid (B1.out.trans (hb2.mono B1.out.size))
  clear hb2 HI B1
  go_wp2_with fail
  go_ret2
  exact ⟨rfl, B2.out⟩

theorem latCheck_ok (w : World) (a : Option Addr) (c n : Nat) (rows : List (List Int)) (hr : RdM w a rows) (R : LatR n rows) (hc : rows.length ≤ c) (hn : n ≤ 12) :
    Gives Tryz.prog 38 #[latV n a rows.length c] w (.int .i64 0) := by
  unfold Gives latV
  have HC := Lib.hid (fun W (hW : Below w.heap.size w W) => lcheck_any W a c n rows (hr.below hW (Nat.le_refl _)) (by have := R.len; omega) (fun r hr => by rw [R.r r hr]; omega))
  rw [R.code hn] at HC
  have HI := Lib.hid (fun W (hW : Below w.heap.size w W) => IsForm_ok W a c n rows (hr.below hW (Nat.le_refl _)) R hc hn)
  clear hr hc R
  generalize rows.length = m at *
  have K0 := Lib.hid (heap_at w #[.int .i64 n, .slice a m c] 67 _ rfl)
  have B0 := Lib.hid ((Below.refl w.heap.size w).alloc (Nat.le_refl _) (.cells #[.int .i64 n, .slice a m c] 67))
  obtain ⟨k1, k2, -, -⟩ := obj_two K0.out
  go_enter Tryz.func38, Tryz.ntmps38
  go_wp2_with fail
  generalize w.alloc (.cells #[.int .i64 n, .slice a m c] 67) = w0 at *
  refine Calls.mono (HC.out w0 B0.out) ?_
  rintro e w1 ⟨rfl, hb1⟩
  have B1 := Lib.hid (B0.out.trans (hb1.mono B0.out.size))
  have K1 := Lib.hid (heap_kept K0.out hb1 (Nat.le_refl _))
  obtain ⟨k1, k2, -, -⟩ := obj_two K1.out
  clear hb1 HC K0 B0
  go_wp2_with fail
  refine Calls.mono (HI.out w1 B1.out) ?_
  rintro e w2 ⟨rfl, hb2⟩
  have B2 := Lib.hid (B1.out.trans (hb2.mono B1.out.size))
  clear hb2 HI B1 K1 k1 k2
  go_wp2_with fail
  go_ret
  exact ⟨rfl, B2.out⟩

end Go.Proofs.YtepicfdhphiiaaaGreatDoor

/- lattice.Annihilator. -/
namespace Go.Proofs.YtepicfdhphiiaaaGreatDoor
open Go.RowKit

/-- What a function leaves that makes a lattice: rows in blocks of its own. -/
def LatE (w w' : World) (n : Nat) (S : Vc → Prop) (e : Ending) : Prop :=
  Below w.heap.size w w' ∧ ∃ Bs, IsHnf Bs ∧ Rect n Bs ∧ (∀ y, Sp (vfs Bs) y ↔ S y) ∧
    ((LatR n Bs ∧ ∃ a c K, e = .returned (.tuple #[latV n a Bs.length c, .int .i64 0]) ∧ BldR w' w.heap.size a c Bs.length n K (ent Bs)) ∨ ((∃ i j, i < Bs.length ∧ j < n ∧ ¬ Fit (ent Bs i j)) ∧ e = .returned (.tuple #[latV 0 none 0 0, .int .i64 4])))
/-- The same, with rows that can be read. -/
def LatD (w w' : World) (n : Nat) (S : Vc → Prop) (e : Ending) : Prop :=
  Below w.heap.size w w' ∧ ∃ Bs, IsHnf Bs ∧ Rect n Bs ∧ (∀ y, Sp (vfs Bs) y ↔ S y) ∧
    ((LatR n Bs ∧ ∃ a c, e = .returned (.tuple #[latV n a Bs.length c, .int .i64 0]) ∧ RdM w' a Bs ∧ Bs.length ≤ c) ∨ ((∃ i j, i < Bs.length ∧ j < n ∧ ¬ Fit (ent Bs i j)) ∧ e = .returned (.tuple #[latV 0 none 0 0, .int .i64 4])))
theorem BldR.capt {w : World} {B c t n : Nat} {a : Option Addr} {K : Nat → Nat × Nat × Nat} {E : Nat → Nat → Int} (h : BldR w B a c t n K E) : t ≤ c := by
  rcases Nat.eq_zero_or_pos t with h0 | h0
  · omega
  · obtain ⟨g, cap, hv, q1, q2, q3, q4, q5⟩ := own_open h.own h0
    simp only [Value.slice.injEq, true_and] at hv
    omega
theorem LatE.d {w w' : World} {n : Nat} {S : Vc → Prop} {e : Ending} (h : LatE w w' n S e) : LatD w w' n S e := by
  obtain ⟨hb, Bs, b1, b2, b3, ⟨hR, a, c, K, rfl, hbl⟩ | h⟩ := h
  · exact ⟨hb, Bs, b1, b2, b3, .inl ⟨hR, a, c, rfl, hbl.rdm rfl b2, hbl.capt⟩⟩
  · exact ⟨hb, Bs, b1, b2, b3, .inr h⟩
theorem seq_six9 : ∀ n, n < 7 → ∀ d, d < n + 1 → eM 9 n d ≤ 999990 ∧ eD 9 n d ≤ 999990 := by decide

theorem ann_any (w : World) (a : Option Addr) (c n : Nat) (rows : List (List Int)) (hr : RdM w a rows) (R : LatR n rows) (hc : rows.length ≤ c) (hn0 : 0 < n) (hn : n ≤ 6) (L : Laid w) :
    Calls Tryz.prog 41 #[latV n a rows.length c] w fun e w' => LatE w w' n (Perp n (Sp (vfs rows))) e := by
  have hl6 := R.len
  have HC := Lib.hid (fun W (hW : Below w.heap.size w W) => latCheck_ok W a c n rows (hr.below hW (Nat.le_refl _)) R hc (by omega))
  have HLo := Lib.hid (fun W (hW : Below w.heap.size w W) => longsOf_any W a c n rows (hr.below hW (Nat.le_refl _)) R.r R.i64 hn0 (by omega) (by omega) (L.below hW))
  have HK := Lib.hid (fun W (hW : Below w.heap.size w W) B v (hV : MatV W B v rows.length n (ent rows)) => kernel_any W B 9 n v rows R.nine (fun d hd => seq_six9 n (by omega) d (by omega)) hV (by omega) hn0 (by omega) (fun W2 hW2 => L.below (hW.trans (hW2.mono hW.size))))
  have HSh := Lib.hid (fun W (hW : Below w.heap.size w W) B v Bs (hv : MatV W B v Bs.length n (ent Bs)) (hrb : Rect n Bs) (hlb : Bs.length ≤ n) (hzb : ∀ i, i < Bs.length → ∀ j, (ent Bs i j).natAbs ≤ 10 ^ eD 9 n n) => shorts_any W B n v Bs hv hrb (fun i hi j _ => Nat.le_trans (hzb i hi j) (lim_ten (seq_six9 n (by omega) n (by omega)).2)) (by omega) hn0 (by omega) (fun W2 hW2 => L.below (hW.trans (hW2.mono hW.size))))
  clear hr hc R L
  unfold latV at HC ⊢
  generalize rows.length = m at *
  have K0 := heap_at w #[.int .i64 n, .slice a m c] 67 _ rfl
  have e1 : (w.alloc (.cells #[.int .i64 n, .slice a m c] 67)).heap.size = w.heap.size + 1 := by simp
  have N1 := Lib.hid (heap_at (w.alloc (.cells #[.int .i64 n, .slice a m c] 67)) #[.int .i64 0, .slice none 0 0] 67 _ e1)
  have N0 := Lib.hid (heap_old K0 (.cells #[.int .i64 0, .slice none 0 0] 67))
  have B0 := Lib.hid (((Below.refl w.heap.size w).alloc (Nat.le_refl _) (.cells #[.int .i64 n, .slice a m c] 67)).alloc (by rw [e1]; omega) (.cells #[.int .i64 0, .slice none 0 0] 67))
  have S0 : Hid (w.heap.size + 2 ≤ ((w.alloc (.cells #[.int .i64 n, .slice a m c] 67)).alloc (.cells #[.int .i64 0, .slice none 0 0] 67)).heap.size) := by show _ ≤ _; simp
  obtain ⟨k1, k2, -, -⟩ := obj_two N0.out
  clear K0 e1
  go_enter Tryz.func41, Tryz.ntmps41
  go_wp2_with fail
  generalize (w.alloc (.cells #[.int .i64 n, .slice a m c] 67)).alloc (.cells #[.int .i64 0, .slice none 0 0] 67) = w1 at *
  refine Calls.mono (HC.out w1 B0.out) ?_
  rintro e w2 ⟨rfl, hb1⟩
  have P0 := Lib.hid (heap_kept N0.out hb1 (Nat.le_refl _))
  have P1 := Lib.hid (heap_kept N1.out hb1 (Nat.le_refl _))
  have D1 := Lib.hid (B0.out.trans (hb1.mono B0.out.size))
  have S1 : Hid (w.heap.size + 2 ≤ w2.heap.size) := Nat.le_trans S0.out hb1.size
  clear hb1 N0 N1 B0 S0 HC k1 k2
  obtain ⟨k1, k2, -, -⟩ := obj_two P0.out
  have hnon : Nonempty (NWm w2) := ⟨⟨w2, Below.refl _ _⟩⟩
  have q1 := NWm.cell k1
  have q2 := NWm.cell k2
  have I : Hid (Below w2.heap.size w2 w2.drew) := (Below.refl _ _).drew
  go_wp2_with fail
  clear k1 k2
  refine RW.wp_region_readers 11 [(2,0),(1,1),(2,3),(1,4),(2,6),(1,7),(0,2),(0,5),(0,8),(2,9),(2,10),(0,11),(0,12)] (fun w' => ∃ p : NWm w2, w' = p.w) (by kernel_rfl) (by kernel_rfl) ?_ ?_
  · exact ⟨⟨_, I.out⟩, rfl⟩
  iterate 6 ((first | refine RW.walkR_any ?_ | refine RW.walkR_read ?_); simp only [List.drop_succ_cons, List.drop_zero, List.take_succ_cons, List.take_zero]; go_big_quiet_step (fail); refine wpQuiet_nil ?_)
  clear hnon q1 q2
  have D2 := Lib.hid (D1.out.trans (I.out.mono D1.out.size))
  refine RW.walkR_move ?_
  simp only [List.drop_succ_cons, List.drop_zero, List.take_succ_cons, List.take_zero]
  go_wp2_with fail
  refine Calls.mono (HLo.out _ D2.out) ?_
  rintro e w3 ⟨v3, rfl, hM3, hb3⟩
  have I3 := Lib.hid (I.out.trans (hb3.mono I.out.size))
  have D3 := Lib.hid (D2.out.trans (hb3.mono D2.out.size))
  have HK3 := Lib.hid (HK.out w3 D3.out _ v3 hM3)
  clear hM3 hb3 HLo HK I D2
  go_wp2_with fail
  refine ⟨⟨⟨_, I3.out⟩, rfl⟩, ?_⟩
  refine RW.walkR_move ?_
  simp only [List.drop_succ_cons, List.drop_zero, List.take_succ_cons, List.take_zero]
  go_wp2_with fail
  refine Calls.mono HK3.out ?_
  rintro e w4 ⟨v4, Ks, rfl, hM4, hH, hRt, hLn, hBd, hS, hb4⟩
  have I4 := Lib.hid (I3.out.trans (hb4.mono I3.out.size))
  have D4 := Lib.hid (D3.out.trans (hb4.mono D3.out.size))
  have HS4 := Lib.hid (HSh.out w4 D4.out w3.heap.size v4 Ks hM4 hRt hLn hBd)
  have QH := Lib.hid hH
  have QR := Lib.hid hRt
  have QS := Lib.hid hS
  clear hM4 hH hRt hLn hBd hS hb4 HK3 HSh I3 D3
  go_wp2_with fail
  refine ⟨⟨⟨_, I4.out⟩, rfl⟩, ?_⟩
  refine RW.walkR_move ?_
  simp only [List.drop_succ_cons, List.drop_zero, List.take_succ_cons, List.take_zero]
  go_wp2_with fail
  refine Calls.mono HS4.out ?_
  rintro e w5 ⟨hb5, hsh⟩
  have I5 := Lib.hid (I4.out.trans (hb5.mono I4.out.size))
  have D5 := Lib.hid (D4.out.trans (hb5.mono D4.out.size))
  have P5 := Lib.hid (heap_kept P1.out I5.out (Nat.le_refl _))
  have S4 : Hid (w.heap.size + 2 ≤ w4.heap.size) := Nat.le_trans S1.out I4.out.size
  clear hb5 HS4 I4 D4 P1 P0 S1
  unfold latV at hsh
  rcases hsh with ⟨hfit, a6, c6, K6, rfl, hbl⟩ | ⟨hnf, rfl⟩
  · have Hf := Lib.hid hfit
    have Hb := Lib.hid hbl
    clear hfit hbl
    go_wp2_with fail
    refine ⟨⟨⟨_, I5.out⟩, rfl⟩, ?_⟩
    iterate 2 ((first | refine RW.walkR_any ?_ | refine RW.walkR_read ?_); simp only [List.drop_succ_cons, List.drop_zero, List.take_succ_cons, List.take_zero]; go_big_quiet_step (fail); refine wpQuiet_nil ?_)
    refine RW.walkR_move ?_
    simp only [List.drop_succ_cons, List.drop_zero, List.take_succ_cons, List.take_zero]
    go_wp2_with (refine wpList_store_row rfl 67 (.tmp 2) (.tmp 20) rfl (w.heap.size + 1) _ rfl rfl 67 _ P5.out (by kernel_rfl) rfl (by simp [Value.oneCell']) ?_)
    refine RW.walkR_move ?_
    simp only [List.drop_succ_cons, List.drop_zero, List.take_succ_cons, List.take_zero]
    go_wp2_with fail
    simp only [RW.walkR]
    go_wp2_with fail
    refine bodyPost_ret (results_ct rfl _ _ (w.heap.size + 1) 67 _ (0, 0) _ rfl (setRow_heap _ _ _ _ _ _ P5.out) Tryz.underlying67 rfl (by kernel_rfl)) rfl ⟨below_setRow D5.out (Nat.le_succ _) _, Ks, QH.out, QR.out, QS.out, .inl ⟨⟨QH.out, QR.out, Hf.out⟩, a6, c6, K6, rfl, (Hb.out.setR (by have := S4.out; omega) _).lower (by have := S4.out; omega)⟩⟩
  · have Hf := Lib.hid hnf
    clear hnf
    go_wp2_with fail
    refine ⟨⟨⟨_, I5.out⟩, rfl⟩, ?_⟩
    iterate 2 ((first | refine RW.walkR_any ?_ | refine RW.walkR_read ?_); simp only [List.drop_succ_cons, List.drop_zero, List.take_succ_cons, List.take_zero]; go_big_quiet_step (fail); refine wpQuiet_nil ?_)
    refine RW.walkR_move ?_
    simp only [List.drop_succ_cons, List.drop_zero, List.take_succ_cons, List.take_zero]
    go_wp2_with (refine wpList_store_row rfl 67 (.tmp 2) (.tmp 20) rfl (w.heap.size + 1) _ rfl rfl 67 _ P5.out (by kernel_rfl) rfl (by simp [Value.oneCell']) ?_)
    refine RW.walkR_move ?_
    simp only [List.drop_succ_cons, List.drop_zero, List.take_succ_cons, List.take_zero]
    go_wp2_with fail
    simp only [RW.walkR]
    go_wp2_with fail
    refine bodyPost_ret (results_ct rfl _ _ (w.heap.size + 1) 67 _ (0, 0) _ rfl (setRow_heap _ _ _ _ _ _ P5.out) Tryz.underlying67 rfl (by kernel_rfl)) rfl ⟨below_setRow D5.out (Nat.le_succ _) _, Ks, QH.out, QR.out, QS.out, .inr ⟨Hf.out, rfl⟩⟩

theorem ann_d (w : World) (a : Option Addr) (c n : Nat) (rows : List (List Int)) (hr : RdM w a rows) (R : LatR n rows) (hc : rows.length ≤ c) (hn0 : 0 < n) (hn : n ≤ 6) (L : Laid w) :
    Calls Tryz.prog 41 #[latV n a rows.length c] w fun e w' => LatD w w' n (Perp n (Sp (vfs rows))) e := Calls.mono (ann_any w a c n rows hr R hc hn0 hn L) fun _ _ h => h.d

end Go.Proofs.YtepicfdhphiiaaaGreatDoor

/- lattice.Saturate. -/
namespace Go.Proofs.YtepicfdhphiiaaaGreatDoor
open Go.RowKit

theorem seq_sixs : ∀ n, n < 7 → ∀ d, d < n + 1 → eM (eD 9 n n) n d ≤ 999990 ∧ eD (eD 9 n n) n d ≤ 999990 := by decide

theorem sat_any (w : World) (a : Option Addr) (c n : Nat) (rows : List (List Int)) (hr : RdM w a rows) (R : LatR n rows) (hc : rows.length ≤ c) (hn0 : 0 < n) (hn : n ≤ 6) (L : Laid w) :
    Calls Tryz.prog 39 #[latV n a rows.length c] w fun e w' => LatE w w' n (Perp n (Perp n (Sp (vfs rows)))) e := by
  have hl6 := R.len
  have HC := Lib.hid (fun W (hW : Below w.heap.size w W) => latCheck_ok W a c n rows (hr.below hW (Nat.le_refl _)) R hc (by omega))
  have HLo := Lib.hid (fun W (hW : Below w.heap.size w W) => longsOf_any W a c n rows (hr.below hW (Nat.le_refl _)) R.r R.i64 hn0 (by omega) (by omega) (L.below hW))
  have HK := Lib.hid (fun W (hW : Below w.heap.size w W) B v (hV : MatV W B v rows.length n (ent rows)) => kernel_any W B 9 n v rows R.nine (fun d hd => seq_six9 n (by omega) d (by omega)) hV (by omega) hn0 (by omega) (fun W2 hW2 => L.below (hW.trans (hW2.mono hW.size))))
  have HK2 := Lib.hid (fun W (hW : Below w.heap.size w W) B v Ks (hV : MatV W B v Ks.length n (ent Ks)) (hlb : Ks.length ≤ n) (hzb : ∀ i, i < Ks.length → ∀ j, (ent Ks i j).natAbs ≤ 10 ^ eD 9 n n) => kernel_any W B (eD 9 n n) n v Ks hzb (fun d hd => seq_sixs n (by omega) d (by omega)) hV (by omega) hn0 (by omega) (fun W2 hW2 => L.below (hW.trans (hW2.mono hW.size))))
  have HSh := Lib.hid (fun W (hW : Below w.heap.size w W) B v Bs (hv : MatV W B v Bs.length n (ent Bs)) (hrb : Rect n Bs) (hlb : Bs.length ≤ n) (hzb : ∀ i, i < Bs.length → ∀ j, (ent Bs i j).natAbs ≤ 10 ^ eD (eD 9 n n) n n) => shorts_any W B n v Bs hv hrb (fun i hi j _ => Nat.le_trans (hzb i hi j) (lim_ten (seq_sixs n (by omega) n (by omega)).2)) (by omega) hn0 (by omega) (fun W2 hW2 => L.below (hW.trans (hW2.mono hW.size))))
  clear hr hc R L
  unfold latV at HC ⊢
  generalize rows.length = m at *
  have K0 := heap_at w #[.int .i64 n, .slice a m c] 67 _ rfl
  have e1 : (w.alloc (.cells #[.int .i64 n, .slice a m c] 67)).heap.size = w.heap.size + 1 := by simp
  have N1 := Lib.hid (heap_at (w.alloc (.cells #[.int .i64 n, .slice a m c] 67)) #[.int .i64 0, .slice none 0 0] 67 _ e1)
  have N0 := Lib.hid (heap_old K0 (.cells #[.int .i64 0, .slice none 0 0] 67))
  have B0 := Lib.hid (((Below.refl w.heap.size w).alloc (Nat.le_refl _) (.cells #[.int .i64 n, .slice a m c] 67)).alloc (by rw [e1]; omega) (.cells #[.int .i64 0, .slice none 0 0] 67))
  have S0 : Hid (w.heap.size + 2 ≤ ((w.alloc (.cells #[.int .i64 n, .slice a m c] 67)).alloc (.cells #[.int .i64 0, .slice none 0 0] 67)).heap.size) := by show _ ≤ _; simp
  obtain ⟨k1, k2, -, -⟩ := obj_two N0.out
  clear K0 e1
  go_enter Tryz.func39, Tryz.ntmps39
  go_wp2_with fail
  generalize (w.alloc (.cells #[.int .i64 n, .slice a m c] 67)).alloc (.cells #[.int .i64 0, .slice none 0 0] 67) = w1 at *
  refine Calls.mono (HC.out w1 B0.out) ?_
  rintro e w2 ⟨rfl, hb1⟩
  have P0 := Lib.hid (heap_kept N0.out hb1 (Nat.le_refl _))
  have P1 := Lib.hid (heap_kept N1.out hb1 (Nat.le_refl _))
  have D1 := Lib.hid (B0.out.trans (hb1.mono B0.out.size))
  have S1 : Hid (w.heap.size + 2 ≤ w2.heap.size) := Nat.le_trans S0.out hb1.size
  clear hb1 N0 N1 B0 S0 HC k1 k2
  obtain ⟨k1, k2, -, -⟩ := obj_two P0.out
  have hnon : Nonempty (NWm w2) := ⟨⟨w2, Below.refl _ _⟩⟩
  have q1 := NWm.cell k1
  have q2 := NWm.cell k2
  have I : Hid (Below w2.heap.size w2 w2.drew) := (Below.refl _ _).drew
  go_wp2_with fail
  clear k1 k2
  refine RW.wp_region_readers 14 [(2,0),(1,1),(2,3),(1,4),(2,6),(1,7),(2,9),(1,10),(0,2),(0,5),(0,8),(0,11),(2,12),(2,13),(0,14),(0,15)] (fun w' => ∃ p : NWm w2, w' = p.w) (by kernel_rfl) (by kernel_rfl) ?_ ?_
  · exact ⟨⟨_, I.out⟩, rfl⟩
  iterate 8 ((first | refine RW.walkR_any ?_ | refine RW.walkR_read ?_); simp only [List.drop_succ_cons, List.drop_zero, List.take_succ_cons, List.take_zero]; go_big_quiet_step (fail); refine wpQuiet_nil ?_)
  clear hnon q1 q2
  have D2 := Lib.hid (D1.out.trans (I.out.mono D1.out.size))
  refine RW.walkR_move ?_
  simp only [List.drop_succ_cons, List.drop_zero, List.take_succ_cons, List.take_zero]
  go_wp2_with fail
  refine Calls.mono (HLo.out _ D2.out) ?_
  rintro e w3 ⟨v3, rfl, hM3, hb3⟩
  have I3 := Lib.hid (I.out.trans (hb3.mono I.out.size))
  have D3 := Lib.hid (D2.out.trans (hb3.mono D2.out.size))
  have HK3 := Lib.hid (HK.out w3 D3.out _ v3 hM3)
  clear hM3 hb3 HLo HK I D2
  go_wp2_with fail
  refine ⟨⟨⟨_, I3.out⟩, rfl⟩, ?_⟩
  refine RW.walkR_move ?_
  simp only [List.drop_succ_cons, List.drop_zero, List.take_succ_cons, List.take_zero]
  go_wp2_with fail
  refine Calls.mono HK3.out ?_
  rintro e w4 ⟨v4, Ks1, rfl, hM4, hH, hRt, hLn, hBd, hS, hb4⟩
  have I4 := Lib.hid (I3.out.trans (hb4.mono I3.out.size))
  have D4 := Lib.hid (D3.out.trans (hb4.mono D3.out.size))
  have HK4 := Lib.hid (HK2.out w4 D4.out _ v4 Ks1 hM4 hLn hBd)
  have QS1 := Lib.hid hS
  clear hM4 hH hRt hLn hBd hS hb4 HK3 HK2 I3 D3
  go_wp2_with fail
  refine ⟨⟨⟨_, I4.out⟩, rfl⟩, ?_⟩
  refine RW.walkR_move ?_
  simp only [List.drop_succ_cons, List.drop_zero, List.take_succ_cons, List.take_zero]
  go_wp2_with fail
  refine Calls.mono HK4.out ?_
  rintro e w6 ⟨v6, Ks, rfl, hM4, hH, hRt, hLn, hBd, hS, hb4⟩
  have I6 := Lib.hid (I4.out.trans (hb4.mono I4.out.size))
  have D6 := Lib.hid (D4.out.trans (hb4.mono D4.out.size))
  have HS4 := Lib.hid (HSh.out w6 D6.out w4.heap.size v6 Ks hM4 hRt hLn hBd)
  have QH := Lib.hid hH
  have QR := Lib.hid hRt
  have QS : Hid (∀ y, Sp (vfs Ks) y ↔ Perp n (Perp n (Sp (vfs rows))) y) := fun y => (hS y).trans (perp_congr QS1.out y)
  clear hM4 hH hRt hLn hBd hS hb4 HK4 HSh I4 D4 QS1
  go_wp2_with fail
  refine ⟨⟨⟨_, I6.out⟩, rfl⟩, ?_⟩
  refine RW.walkR_move ?_
  simp only [List.drop_succ_cons, List.drop_zero, List.take_succ_cons, List.take_zero]
  go_wp2_with fail
  refine Calls.mono HS4.out ?_
  rintro e w5 ⟨hb5, hsh⟩
  have I5 := Lib.hid (I6.out.trans (hb5.mono I6.out.size))
  have D5 := Lib.hid (D6.out.trans (hb5.mono D6.out.size))
  have P5 := Lib.hid (heap_kept P1.out I5.out (Nat.le_refl _))
  have S4 : Hid (w.heap.size + 2 ≤ w6.heap.size) := Nat.le_trans S1.out I6.out.size
  clear hb5 HS4 I6 D6 P1 P0 S1
  unfold latV at hsh
  rcases hsh with ⟨hfit, a6, c6, K6, rfl, hbl⟩ | ⟨hnf, rfl⟩
  · have Hf := Lib.hid hfit
    have Hb := Lib.hid hbl
    clear hfit hbl
    go_wp2_with fail
    refine ⟨⟨⟨_, I5.out⟩, rfl⟩, ?_⟩
    iterate 2 ((first | refine RW.walkR_any ?_ | refine RW.walkR_read ?_); simp only [List.drop_succ_cons, List.drop_zero, List.take_succ_cons, List.take_zero]; go_big_quiet_step (fail); refine wpQuiet_nil ?_)
    refine RW.walkR_move ?_
    simp only [List.drop_succ_cons, List.drop_zero, List.take_succ_cons, List.take_zero]
    go_wp2_with (refine wpList_store_row rfl 67 (.tmp 2) (.tmp 23) rfl (w.heap.size + 1) _ rfl rfl 67 _ P5.out (by kernel_rfl) rfl (by simp [Value.oneCell']) ?_)
    refine RW.walkR_move ?_
    simp only [List.drop_succ_cons, List.drop_zero, List.take_succ_cons, List.take_zero]
    go_wp2_with fail
    simp only [RW.walkR]
    go_wp2_with fail
    refine bodyPost_ret (results_ct rfl _ _ (w.heap.size + 1) 67 _ (0, 0) _ rfl (setRow_heap _ _ _ _ _ _ P5.out) Tryz.underlying67 rfl (by kernel_rfl)) rfl ⟨below_setRow D5.out (Nat.le_succ _) _, Ks, QH.out, QR.out, QS.out, .inl ⟨⟨QH.out, QR.out, Hf.out⟩, a6, c6, K6, rfl, (Hb.out.setR (by have := S4.out; omega) _).lower (by have := S4.out; omega)⟩⟩
  · have Hf := Lib.hid hnf
    clear hnf
    go_wp2_with fail
    refine ⟨⟨⟨_, I5.out⟩, rfl⟩, ?_⟩
    iterate 2 ((first | refine RW.walkR_any ?_ | refine RW.walkR_read ?_); simp only [List.drop_succ_cons, List.drop_zero, List.take_succ_cons, List.take_zero]; go_big_quiet_step (fail); refine wpQuiet_nil ?_)
    refine RW.walkR_move ?_
    simp only [List.drop_succ_cons, List.drop_zero, List.take_succ_cons, List.take_zero]
    go_wp2_with (refine wpList_store_row rfl 67 (.tmp 2) (.tmp 23) rfl (w.heap.size + 1) _ rfl rfl 67 _ P5.out (by kernel_rfl) rfl (by simp [Value.oneCell']) ?_)
    refine RW.walkR_move ?_
    simp only [List.drop_succ_cons, List.drop_zero, List.take_succ_cons, List.take_zero]
    go_wp2_with fail
    simp only [RW.walkR]
    go_wp2_with fail
    refine bodyPost_ret (results_ct rfl _ _ (w.heap.size + 1) 67 _ (0, 0) _ rfl (setRow_heap _ _ _ _ _ _ P5.out) Tryz.underlying67 rfl (by kernel_rfl)) rfl ⟨below_setRow D5.out (Nat.le_succ _) _, Ks, QH.out, QR.out, QS.out, .inr ⟨Hf.out, rfl⟩⟩

theorem sat_d (w : World) (a : Option Addr) (c n : Nat) (rows : List (List Int)) (hr : RdM w a rows) (R : LatR n rows) (hc : rows.length ≤ c) (hn0 : 0 < n) (hn : n ≤ 6) (L : Laid w) :
    Calls Tryz.prog 39 #[latV n a rows.length c] w fun e w' => LatD w w' n (Perp n (Perp n (Sp (vfs rows)))) e := Calls.mono (sat_any w a c n rows hr R hc hn0 hn L) fun _ _ h => h.d

end Go.Proofs.YtepicfdhphiiaaaGreatDoor

/- lattice.checkBoth. -/
namespace Go.Proofs.YtepicfdhphiiaaaGreatDoor
open Go.RowKit

end Go.Proofs.YtepicfdhphiiaaaGreatDoor

/- lattice.has, Within. -/
namespace Go.Proofs.YtepicfdhphiiaaaGreatDoor
open Go.RowKit

end Go.Proofs.YtepicfdhphiiaaaGreatDoor

/- lattice.Sum. -/
namespace Go.Proofs.YtepicfdhphiiaaaGreatDoor
open Go.RowKit

theorem BldS.hd {w : World} {B c t n : Nat} {a : Option Addr} {K : Nat → Nat × Nat × Nat} {E : Nat → Nat → Int} (h : BldS w B a c t n K E) : Rd w a (hdrs K n t) := by
  rcases Nat.eq_zero_or_pos t with h0 | h0
  · exact .inl (by subst h0; rfl)
  · obtain ⟨g, cap, hv, q1, q2, q3, q4, q5⟩ := own_open h.own h0
    simp only [Value.slice.injEq, true_and] at hv
    obtain ⟨rfl, rfl⟩ := hv
    exact .inr ⟨g, 0, rfl, q2, fun i v hi => by
      have hlt := (List.getElem?_eq_some_iff.1 hi).1
      rw [hdrs_length] at hlt
      rw [Nat.zero_add, q4 i (by omega), hi]⟩
end Go.Proofs.YtepicfdhphiiaaaGreatDoor

/- slices.Concat of two rows of long integers. -/
namespace Go.Proofs.YtepicfdhphiiaaaGreatDoor
open Go.RowKit


end Go.Proofs.YtepicfdhphiiaaaGreatDoor

/- The rows of an intersection, plain. -/
namespace Go.Proofs.YtepicfdhphiiaaaGreatDoor

end Go.Proofs.YtepicfdhphiiaaaGreatDoor

/- lattice.Intersect. -/
namespace Go.Proofs.YtepicfdhphiiaaaGreatDoor
open Go.RowKit

end Go.Proofs.YtepicfdhphiiaaaGreatDoor

/- Equality of matrices; temperament.Check on right temperaments. -/
namespace Go.Proofs.YtepicfdhphiiaaaGreatDoor
open Go.RowKit

theorem eqM_true (w : World) (a b : Option Addr) (c d : Nat) (A : List (List Int)) (hA : RdM w a A) (hB : RdM w b A) (hl : A.length ≤ 1000000) (f : FuncId) (eg : ∀ args w, (callFunc f args).run Tryz.prog w = .ok (.enter f args) w)
    (hcl : ∀ W, Below w.heap.size w W → ∀ x ∈ A, ∀ a1 c1 a2 c2, Rd W a1 (ints x) → Rd W a2 (ints x) → Gives Tryz.prog f (#[.slice a1 x.length c1, .slice a2 x.length c2] ++ #[]) W (.bool true)) :
    Gives Tryz.prog 76 #[.slice a A.length c, .slice b A.length d, .func (.func f) #[] #[]] w (.bool true) := by
  unfold Gives
  have Hr := Lib.hid hA.rdi
  have Ho := Lib.hid hB.rdi
  have Hcl := Lib.hid hcl
  clear hA hB hcl
  generalize hm : A.length = m at *
  have Hm := Lib.hid hm
  clear hm
  go_enter Tryz.func76, Tryz.ntmps76
  go_wp2_with fail
  go_loopw [17] (fun i wr => ∃ k : Nat, k ≤ m ∧ i = .int .i64 k ∧ Hid (Below w.heap.size w wr)) (fun i _ => m - (intOf i).toNat)
  case atStart => exact ⟨0, Nat.zero_le _, rfl, Below.refl _ _⟩
  case round =>
    obtain ⟨k, hk, rfl, B⟩ := hrel
    by_cases hlt : k < m
    · have hlt' : (k : Int) < m := by omega
      obtain ⟨b0, off, rfl, hb0, a', c', k1, k2⟩ : ∃ b0 off, a = some ⟨b0, off, none⟩ ∧ b0 < w.heap.size ∧ ∃ a' c', w.cell? ⟨b0, off + k, none⟩ = some (.slice a' (A.getD k []).length c') ∧ Rd w a' (ints (A.getD k [])) := by
        rcases Hr.out with h | ⟨b0, off, h1, h2, h3⟩
        · have := Hm.out; rw [h] at this; simp at this; omega
        · obtain ⟨a', c', x1, x2⟩ := h3 k (by rw [Hm.out]; exact hlt)
          exact ⟨b0, off, h1, h2, a', c', x1, x2⟩
      obtain ⟨b1, off1, rfl, hb1, a2, c2, k3, k4⟩ : ∃ b0 off, b = some ⟨b0, off, none⟩ ∧ b0 < w.heap.size ∧ ∃ a' c', w.cell? ⟨b0, off + k, none⟩ = some (.slice a' (A.getD k []).length c') ∧ Rd w a' (ints (A.getD k [])) := by
        rcases Ho.out with h | ⟨b0, off, h1, h2, h3⟩
        · have := Hm.out; rw [h] at this; simp at this; omega
        · obtain ⟨a', c', x1, x2⟩ := h3 k (by rw [Hm.out]; exact hlt)
          exact ⟨b0, off, h1, h2, a', c', x1, x2⟩
      rw [← B.out.cell (p := ⟨b0, off + k, none⟩) hb0] at k1
      rw [← B.out.cell (p := ⟨b1, off1 + k, none⟩) hb1] at k3
      have HC := Lib.hid (Hcl.out wr B.out _ (lrow_mem (by rw [Hm.out]; exact hlt)) a' c' a2 c2 (k2.below B.out (Nat.le_refl _)) (k4.below B.out (Nat.le_refl _)))
      unfold Gives at HC
      clear k2 k4
      generalize (A.getD k []).length = x at *
      go_wp2_with fail
      refine Calls.mono HC.out ?_
      rintro e_ w2 ⟨rfl, hb_⟩
      have B2 := Lib.hid (B.out.trans (hb_.mono B.out.size))
      clear hb_ HC k1 k3 B
      go_wp2_with fail
      go_roundw
      case rel => exact ⟨k + 1, by omega, by go_num, B2⟩
      case measure => simp [intOf]; omega
    · have hlt' : ¬ (k : Int) < m := by omega
      go_wp2_with fail
      go_ret
      exact ⟨rfl, B.out⟩

theorem latEq_ok (w : World) (a b : Option Addr) (c d n : Nat) (A : List (List Int)) (hA : RdM w a A) (hB : RdM w b A) (R : LatR n A) (hn : n ≤ 6) :
    Gives Tryz.prog 40 #[latV n a A.length c, latV n b A.length d] w (.bool true) := by
  unfold Gives latV
  have hl := R.len
  have HE := Lib.hid (fun W (hW : Below w.heap.size w W) => eqM_true W a b c d A (hA.below hW (Nat.le_refl _)) (hB.below hW (Nat.le_refl _)) (by omega) 77 (enter_of Tryz.func77 (by kernel_rfl) rfl) fun W2 _ x hx a1 c1 a2 c2 r1 r2 => by
    have := irowEq_any W2 a1 a2 c1 c2 x x r1 r2 (by rw [R.r x hx]; omega)
    rw [decide_eq_true rfl] at this
    exact this)
  clear hA hB R hl
  generalize A.length = m at *
  have K0 := heap_at w #[.int .i64 n, .slice a m c] 67 _ rfl
  obtain ⟨w1, hw1⟩ : ∃ w1, ((w.alloc (.cells #[.int .i64 n, .slice a m c] 67)).alloc (.cells #[.int .i64 n, .slice b m d] 67)) = w1 := ⟨_, rfl⟩
  have P0 : w1.heap[w.heap.size]? = some (.cells #[.int .i64 n, .slice a m c] 67 (0, 0)) := by rw [← hw1]; exact heap_old K0 _
  have P1 : w1.heap[w.heap.size + 1]? = some (.cells #[.int .i64 n, .slice b m d] 67 (0, 0)) := by rw [← hw1]; exact heap_at _ _ _ _ (by simp)
  have B0 : Hid (Below w.heap.size w w1) := by rw [← hw1]; exact ((Below.refl _ w).alloc (Nat.le_refl _) _).alloc (by simp) _
  have Hw1 := Lib.hid hw1
  obtain ⟨j1, j2, -, -⟩ := obj_two P0
  obtain ⟨j3, j4, -, -⟩ := obj_two P1
  rw [← hw1] at j1 j2 j3 j4
  clear P0 P1 K0 hw1
  have hnn : ((n : Int) == n) = true := beq_self_eq_true _
  go_enter Tryz.func40, Tryz.ntmps40
  go_wp2_with fail
  rw [Hw1.out]
  refine Calls.mono (HE.out w1 B0.out) ?_
  rintro e w2 ⟨rfl, hb⟩
  have B1 := Lib.hid (B0.out.trans (hb.mono B0.out.size))
  clear hb HE B0 j1 j2 j3 j4 Hw1
  go_wp2_with fail
  go_ret
  exact ⟨rfl, B1.out⟩

theorem tsame1_ok (w : World) (a1 a2 : Option Addr) (c1 c2 : Nat) (x : List Int) (r1 : Rd w a1 (ints x)) (r2 : Rd w a2 (ints x)) (hbig : x.length ≤ 1000000) :
    Gives Tryz.prog 78 #[.slice a1 x.length c1, .slice a2 x.length c2] w (.bool true) := by
  have HA := Lib.hid (islEq_any w a1 a2 c1 c2 x x r1 r2 hbig)
  rw [decide_eq_true rfl] at HA
  unfold Gives at *
  clear r1 r2 hbig
  generalize x.length = n at *
  go_enter Tryz.func78, Tryz.ntmps78
  go_wp2_with fail
  refine Calls.mono HA.out ?_
  rintro e w1 ⟨rfl, hb⟩
  have B1 := Lib.hid hb
  clear hb HA
  go_wp2_with fail
  go_ret
  exact ⟨rfl, B1.out⟩
theorem tsame_ok (w : World) (a b : Option Addr) (c d n : Nat) (A : List (List Int)) (hA : RdM w a A) (hB : RdM w b A) (R : LatR n A) (hn : n ≤ 6) :
    Gives Tryz.prog 42 #[.slice a A.length c, .slice b A.length d] w (.bool true) := by
  have hl := R.len
  have HE := Lib.hid (eqM_true w a b c d A hA hB (by omega) 78 (enter_of Tryz.func78 (by kernel_rfl) rfl) fun W2 _ x hx a1 c1 a2 c2 r1 r2 => tsame1_ok W2 a1 a2 c1 c2 x r1 r2 (by rw [R.r x hx]; omega))
  unfold Gives at *
  clear hA hB R hl
  generalize A.length = m at *
  go_enter Tryz.func42, Tryz.ntmps42
  go_wp2_with fail
  refine Calls.mono HE.out ?_
  rintro e w1 ⟨rfl, hb⟩
  have B1 := Lib.hid hb
  clear hb HE
  go_wp2_with fail
  go_ret
  exact ⟨rfl, B1.out⟩

/-- A temperament as a value. -/
def temV (a0 : Option Addr) (n c0 : Nat) (a1 : Option Addr) (m1 c1 : Nat) (a2 : Option Addr) (m2 c2 : Nat) : Value := .agg #[.slice a0 n c0, .slice a1 m1 c1, .slice a2 m2 c2]
/-- A temperament that can be read. -/
structure TemM (w : World) (a0 : Option Addr) (ps : List Int) (a1 : Option Addr) (c1 : Nat) (C : List (List Int)) (a2 : Option Addr) (c2 : Nat) (M : List (List Int)) : Prop where
  p : Rd w a0 (ints ps)
  c : RdM w a1 C
  m : RdM w a2 M
  lc : C.length ≤ c1
  lm : M.length ≤ c2
theorem TemM.below {w w' : World} {a0 : Option Addr} {ps : List Int} {a1 : Option Addr} {c1 : Nat} {C : List (List Int)} {a2 : Option Addr} {c2 : Nat} {M : List (List Int)} {B : Nat} (h : TemM w a0 ps a1 c1 C a2 c2 M) (hb : Below B w w') (hB : w.heap.size ≤ B) : TemM w' a0 ps a1 c1 C a2 c2 M :=
  ⟨h.p.below hb hB, h.c.below hb hB, h.m.below hb hB, h.lc, h.lm⟩
/-- Right primes. -/
structure PsR (ps : List Int) : Prop where
  c : pcode ps = 0
  i : I64s ps
theorem PsR.len {ps : List Int} (h : PsR ps) : 0 < ps.length ∧ ps.length ≤ 6 := by
  have := h.c
  unfold pcode at this
  split at this
  · simp at this
  · split at this
    · simp at this
    · omega
theorem TemOk.latC {n : Nat} {C M : List (List Int)} (h : TemOk n C M) : LatR n C := ⟨h.hc, h.rc, h.fc⟩
theorem TemOk.latM {n : Nat} {C M : List (List Int)} (h : TemOk n C M) : LatR n M := ⟨h.hm, h.rm, h.fm⟩
theorem three_cells {w : World} {g : Nat} {a b c : Value} {t : TypeId} (h : w.heap[g]? = some (.cells #[a, b, c] t (0, 0))) :
    w.cell? ⟨g, 0, none⟩ = some a ∧ w.cell? ⟨g, 1, none⟩ = some b ∧ w.cell? ⟨g, 2, none⟩ = some c :=
  ⟨cell_of_row w g 0 _ _ _ h, cell_of_row w g 1 _ _ _ h, cell_of_row w g 2 _ _ _ h⟩

theorem temCheck_ok (w : World) (a0 : Option Addr) (c0 : Nat) (ps : List Int) (a1 : Option Addr) (c1 : Nat) (C : List (List Int)) (a2 : Option Addr) (c2 : Nat) (M : List (List Int)) (hT : TemM w a0 ps a1 c1 C a2 c2 M) (P : PsR ps) (R : TemOk ps.length C M) (L : Laid w) :
    Gives Tryz.prog 20 #[temV a0 ps.length c0 a1 C.length c1 a2 M.length c2] w (.int .i64 0) := by
  unfold Gives
  obtain ⟨hp0, hp6⟩ := P.len
  have HP := Lib.hid (fun W (hW : Below w.heap.size w W) => primeCheck_any W a0 c0 ps (hT.p.below hW (Nat.le_refl _)) P.i (by omega))
  rw [P.c] at HP
  have HC := Lib.hid (fun W (hW : Below w.heap.size w W) => latCheck_ok W a1 c1 ps.length C (hT.c.below hW (Nat.le_refl _)) R.latC hT.lc (by omega))
  have HS := Lib.hid (fun W (hW : Below w.heap.size w W) => Calls.mono (sat_d W a1 c1 ps.length C (hT.c.below hW (Nat.le_refl _)) R.latC hT.lc hp0 hp6 (L.below hW)) (R' := fun e w' => ∃ a c, e = .returned (.tuple #[latV ps.length a C.length c, .int .i64 0]) ∧ RdM w' a C ∧ Below W.heap.size W w') (by
    rintro e w' ⟨hb, Bs, b1, b2, b3, h⟩
    have e1 : Bs = C := hnf_same b1 R.hc b2 R.rc fun y => (b3 y).trans (closed_iff R.closed y)
    subst e1
    rcases h with ⟨_, a, c, rfl, hr, _⟩ | ⟨⟨i, j, hi, hj, hn⟩, _⟩
    · exact ⟨a, c, rfl, hr, hb⟩
    · exact absurd (R.fc i hi j hj) hn))
  have HA := Lib.hid (fun W (hW : Below w.heap.size w W) => Calls.mono (ann_d W a1 c1 ps.length C (hT.c.below hW (Nat.le_refl _)) R.latC hT.lc hp0 hp6 (L.below hW)) (R' := fun e w' => ∃ a c, e = .returned (.tuple #[latV ps.length a M.length c, .int .i64 0]) ∧ RdM w' a M ∧ Below W.heap.size W w') (by
    rintro e w' ⟨hb, Bs, b1, b2, b3, h⟩
    have e1 : Bs = M := hnf_same b1 R.hm b2 R.rm fun y => (b3 y).trans (R.pm y).symm
    subst e1
    rcases h with ⟨_, a, c, rfl, hr, _⟩ | ⟨⟨i, j, hi, hj, hn⟩, _⟩
    · exact ⟨a, c, rfl, hr, hb⟩
    · exact absurd (R.fm i hi j hj) hn))
  have HQ := Lib.hid (fun W (hW : Below w.heap.size w W) a c (hr : RdM W a C) => latEq_ok W a a1 c c1 ps.length C hr (hT.c.below hW (Nat.le_refl _)) R.latC hp6)
  have HM := Lib.hid (fun W (hW : Below w.heap.size w W) a c (hr : RdM W a M) => tsame_ok W a a2 c c2 ps.length M hr (hT.m.below hW (Nat.le_refl _)) R.latM hp6)
  clear hT P R L
  unfold temV
  unfold latV at HC HS HA HQ
  obtain ⟨n, hn⟩ : ∃ n, ps.length = n := ⟨_, rfl⟩
  rw [hn] at HP HC HS HA HQ hp0 hp6 ⊢
  clear hn
  have B0 := Lib.hid ((Below.refl w.heap.size w).alloc (Nat.le_refl _) (.cells #[.slice a0 n c0, .slice a1 C.length c1, .slice a2 M.length c2] 32))
  have K0 := Lib.hid (heap_at w #[.slice a0 n c0, .slice a1 C.length c1, .slice a2 M.length c2] 32 _ rfl)
  obtain ⟨k1, k2, k3⟩ := three_cells K0.out
  go_enter Tryz.func20, Tryz.ntmps20
  go_wp2_with fail
  generalize w.alloc (.cells #[.slice a0 n c0, .slice a1 C.length c1, .slice a2 M.length c2] 32) = w0 at *
  refine Calls.mono (HP.out w0 B0.out) ?_
  rintro e w1 ⟨rfl, hb1⟩
  have K1 := Lib.hid (heap_kept K0.out hb1 (Nat.le_refl _))
  have B1 := Lib.hid (B0.out.trans (hb1.mono B0.out.size))
  clear hb1 HP K0 B0 k1 k2 k3
  obtain ⟨k1, k2, k3⟩ := three_cells K1.out
  have K2 := Lib.hid (heap_old K1.out (.cells #[.int .i64 n, .slice a1 C.length c1] 67))
  have L2 := Lib.hid (heap_at w1 #[.int .i64 n, .slice a1 C.length c1] 67 _ rfl)
  have B2 := Lib.hid (B1.out.alloc B1.out.size (.cells #[.int .i64 n, .slice a1 C.length c1] 67))
  obtain ⟨j1, j2, -, -⟩ := obj_two L2.out
  go_wp2_with fail
  generalize w1.alloc (.cells #[.int .i64 n, .slice a1 C.length c1] 67) = w2 at *
  refine Calls.mono (HC.out w2 B2.out) ?_
  rintro e w3 ⟨rfl, hb3⟩
  have K3 := Lib.hid (heap_kept K2.out hb3 (Nat.le_refl _))
  have L3 := Lib.hid (heap_kept L2.out hb3 (Nat.le_refl _))
  have B3 := Lib.hid (B2.out.trans (hb3.mono B2.out.size))
  clear hb3 HC K2 L2 B2 B1 K1 k1 k2 k3 j1 j2
  obtain ⟨j1, j2, -, -⟩ := obj_two L3.out
  go_wp2_with fail
  refine Calls.mono (HS.out w3 B3.out) ?_
  rintro e w4 ⟨a4, c4, rfl, hr4, hb4⟩
  have K4 := Lib.hid (heap_old (heap_kept K3.out hb4 (Nat.le_refl _)) (.cells #[.int .i64 n, .slice a4 C.length c4] 67))
  have L4 := Lib.hid (heap_old (heap_kept L3.out hb4 (Nat.le_refl _)) (.cells #[.int .i64 n, .slice a4 C.length c4] 67))
  have M4 := Lib.hid (heap_at w4 #[.int .i64 n, .slice a4 C.length c4] 67 _ rfl)
  have D4 := Lib.hid (B3.out.trans (hb4.mono B3.out.size))
  have B4 := Lib.hid (D4.out.alloc D4.out.size (.cells #[.int .i64 n, .slice a4 C.length c4] 67))
  have HQ4 := Lib.hid (HQ.out _ B4.out a4 c4 (hr4.below ((Below.refl _ w4).alloc (Nat.le_refl _) _) (Nat.le_refl _)))
  unfold Gives at HQ4
  clear hr4 hb4 HS HQ K3 L3 B3 D4 j1 j2
  obtain ⟨j1, j2, -, -⟩ := obj_two L4.out
  obtain ⟨i1, i2, -, -⟩ := obj_two M4.out
  go_wp2_with fail
  generalize w4.alloc (.cells #[.int .i64 n, .slice a4 C.length c4] 67) = w5 at *
  refine Calls.mono HQ4.out ?_
  rintro e w6 ⟨rfl, hb6⟩
  have K6 := Lib.hid (heap_kept K4.out hb6 (Nat.le_refl _))
  have L6 := Lib.hid (heap_kept L4.out hb6 (Nat.le_refl _))
  have B6 := Lib.hid (B4.out.trans (hb6.mono B4.out.size))
  clear hb6 HQ4 K4 L4 M4 B4 j1 j2 i1 i2
  obtain ⟨j1, j2, -, -⟩ := obj_two L6.out
  go_wp2_with fail
  refine Calls.mono (HA.out w6 B6.out) ?_
  rintro e w7 ⟨a7, c7, rfl, hr7, hb7⟩
  have K7 := Lib.hid (heap_old (heap_kept K6.out hb7 (Nat.le_refl _)) (.cells #[.int .i64 n, .slice a7 M.length c7] 67))
  have M7 := Lib.hid (heap_at w7 #[.int .i64 n, .slice a7 M.length c7] 67 _ rfl)
  have D7 := Lib.hid (B6.out.trans (hb7.mono B6.out.size))
  have B7 := Lib.hid (D7.out.alloc D7.out.size (.cells #[.int .i64 n, .slice a7 M.length c7] 67))
  have HM7 := Lib.hid (HM.out _ B7.out a7 c7 (hr7.below ((Below.refl _ w7).alloc (Nat.le_refl _) _) (Nat.le_refl _)))
  unfold Gives at HM7
  clear hr7 hb7 HA HM K6 L6 B6 D7 j1 j2
  obtain ⟨k1, k2, k3⟩ := three_cells K7.out
  obtain ⟨i1, i2, -, -⟩ := obj_two M7.out
  go_wp2_with fail
  generalize w7.alloc (.cells #[.int .i64 n, .slice a7 M.length c7] 67) = w8 at *
  refine Calls.mono HM7.out ?_
  rintro e w9 ⟨rfl, hb9⟩
  have B9 := Lib.hid (B7.out.trans (hb9.mono B7.out.size))
  clear hb9 HM7 K7 M7 B7 k1 k2 k3 i1 i2
  go_wp2_with fail
  go_ret
  exact ⟨rfl, B9.out⟩

end Go.Proofs.YtepicfdhphiiaaaGreatDoor

/- temperament.from. -/
namespace Go.Proofs.YtepicfdhphiiaaaGreatDoor
open Go.RowKit

/-- The normal form of a lattice has great numbers. -/
def UnfS (n : Nat) (S : Vc → Prop) : Prop := ∃ Bs, IsHnf Bs ∧ Rect n Bs ∧ (∀ y, Sp (vfs Bs) y ↔ S y) ∧ ∃ i j, i < Bs.length ∧ j < n ∧ ¬ Fit (ent Bs i j)
theorem of_lat {w w' : World} {n : Nat} {rows : List (List Int)} {e : Ending} (h : OfE w w' n rows e) (hz : latcode n rows = 0) : LatE w w' n (Sp (vfs rows)) e := by
  obtain ⟨hb, ⟨h1, _⟩ | ⟨_, Bs, b1, b2, b3, _, h2⟩⟩ := h
  · exact absurd hz h1
  · refine ⟨hb, Bs, b1, b2, fun y => (b3 y).symm, ?_⟩
    rcases h2 with ⟨hf, a, c, K, rfl, hbl⟩ | ⟨hn, rfl⟩
    · exact .inl ⟨⟨b1, b2, hf⟩, a, c, K, rfl, hbl⟩
    · exact .inr ⟨hn, rfl⟩
/-- What from leaves of right rows. -/
def FrE (w w' : World) (n : Nat) (R : List (List Int)) (e : Ending) : Prop :=
  Below w.heap.size w w' ∧ ((∃ v1 v2, e = .returned (.tuple #[v1, v2, .int .i64 4]) ∧ (UnfS n (Sp (vfs R)) ∨ UnfS n (Perp n (Perp n (Sp (vfs R)))) ∨ UnfS n (Perp n (Sp (vfs R))))) ∨
    (∃ S A a1 c1 a2 c2, e = .returned (.tuple #[.slice a1 S.length c1, .slice a2 A.length c2, .int .i64 0]) ∧ LatR n S ∧ LatR n A ∧ (∀ y, Sp (vfs S) y ↔ Perp n (Perp n (Sp (vfs R))) y) ∧ (∀ y, Sp (vfs A) y ↔ Perp n (Sp (vfs R)) y) ∧ RdM w' a1 S ∧ S.length ≤ c1 ∧ RdM w' a2 A ∧ A.length ≤ c2))

theorem from_any (w : World) (a0 a : Option Addr) (c0 c : Nat) (ps : List Int) (rows : List (List Int)) (hp : Rd w a0 (ints ps)) (P : PsR ps) (hr : RdM w a rows) (hz : latcode ps.length rows = 0) (L : Laid w) :
    Calls Tryz.prog 43 #[.slice a0 ps.length c0, .slice a rows.length c] w fun e w' => FrE w w' ps.length rows e := by
  obtain ⟨hp0, hp6⟩ := P.len
  have HP := Lib.hid (fun W (hW : Below w.heap.size w W) => primeCheck_any W a0 c0 ps (hp.below hW (Nat.le_refl _)) P.i (by omega))
  rw [P.c] at HP
  obtain ⟨h12, hr12, hac⟩ : ps.length ≤ 12 ∧ rows.length ≤ 12 ∧ acode ps.length rows = 0 := by
    unfold latcode at hz
    split at hz
    · simp at hz
    · split at hz
      · simp at hz
      · exact ⟨by omega, by omega, hz⟩
  have HOf := Lib.hid (fun W (hW : Below w.heap.size w W) => Calls.mono (latof_any W a c ps.length rows (hr.below hW (Nat.le_refl _)) (by omega) (fun r hr => by have := (acode_zero.1 hac r hr).2; omega) hp0 (L.below hW)) (R' := fun e w' => LatD W w' ps.length (Sp (vfs rows)) e) (fun e w' h => (of_lat h hz).d))
  have hsupp := rect_supp (rows_nine hac).1
  have HS := Lib.hid (fun W (hW : Below w.heap.size w W) a c Bs (hB : RdM W a Bs) (R : LatR ps.length Bs) (hc : Bs.length ≤ c) => sat_d W a c ps.length Bs hB R hc hp0 hp6 (L.below hW))
  have HA := Lib.hid (fun W (hW : Below w.heap.size w W) a c Bs (hB : RdM W a Bs) (R : LatR ps.length Bs) (hc : Bs.length ≤ c) => ann_d W a c ps.length Bs hB R hc hp0 hp6 (L.below hW))
  clear hp P hr hz L h12 hr12 hac hsupp
  unfold latV at HS HA
  unfold LatD latV at HOf HS HA
  obtain ⟨n, hn⟩ : ∃ n, ps.length = n := ⟨_, rfl⟩
  rw [hn] at HP HOf HS HA hp0 hp6 ⊢
  clear hn
  obtain ⟨S0, hS0⟩ : ∃ S0, Sp (vfs rows) = S0 := ⟨_, rfl⟩
  have HS0 := Lib.hid hS0
  rw [hS0] at HOf
  clear hS0
  go_enter Tryz.func43, Tryz.ntmps43
  go_wp2_with fail
  refine Calls.mono (HP.out w (Below.refl _ _)) ?_
  rintro e w1 ⟨rfl, hb1⟩
  have D1 := Lib.hid hb1
  clear hb1 HP
  go_wp2_with fail
  refine Calls.mono (HOf.out w1 D1.out) ?_
  rintro e w2 ⟨hb2, Bs, q1, q2, q3, h2⟩
  have D2 := Lib.hid (D1.out.trans (hb2.mono D1.out.size))
  have Q3 := Lib.hid q3
  clear hb2 HOf D1
  rcases h2 with ⟨hR, a2, c2, rfl, hr2, hc2⟩ | ⟨hn, rfl⟩
  · have R2 := Lib.hid hR
    have K2 := Lib.hid (heap_at w2 #[.int .i64 n, .slice a2 Bs.length c2] 67 _ rfl)
    have D3 := Lib.hid (D2.out.alloc D2.out.size (.cells #[.int .i64 n, .slice a2 Bs.length c2] 67))
    have RM := Lib.hid (hr2.below ((Below.refl _ w2).alloc (Nat.le_refl _) (.cells #[.int .i64 n, .slice a2 Bs.length c2] 67)) (Nat.le_refl _))
    have HC2 := Lib.hid hc2
    obtain ⟨k1, k2, -, -⟩ := obj_two K2.out
    clear q1 q2 q3 hr2 hc2 hR
    go_wp2_with fail
    generalize w2.alloc (.cells #[.int .i64 n, .slice a2 Bs.length c2] 67) = w3 at *
    refine Calls.mono (HS.out w3 D3.out a2 c2 Bs RM.out R2.out HC2.out) ?_
    rintro e w4 ⟨hb4, Ss, s1, s2, s3, h4⟩
    have D4 := Lib.hid (D3.out.trans (hb4.mono D3.out.size))
    have K4 := Lib.hid (heap_kept K2.out hb4 (Nat.le_refl _))
    have RM4 := Lib.hid (RM.out.below hb4 (Nat.le_refl _))
    have S3 : Hid (∀ y, Sp (vfs Ss) y ↔ Perp n (Perp n (Sp (vfs rows))) y) := fun y => (s3 y).trans (perp_congr (perp_congr fun x => by rw [HS0.out]; exact Q3.out x) y)
    clear hb4 HS K2 RM D3 k1 k2
    rcases h4 with ⟨hR4, a4, c4, rfl, hr4, hc4⟩ | ⟨hn4, rfl⟩
    · have R4 := Lib.hid hR4
      have K5 := Lib.hid (heap_old K4.out (.cells #[.int .i64 n, .slice a4 Ss.length c4] 67))
      have J5 := Lib.hid (heap_at w4 #[.int .i64 n, .slice a4 Ss.length c4] 67 _ rfl)
      have D5 := Lib.hid (D4.out.alloc D4.out.size (.cells #[.int .i64 n, .slice a4 Ss.length c4] 67))
      have hba : Below w4.heap.size w4 (w4.alloc (.cells #[.int .i64 n, .slice a4 Ss.length c4] 67)) := (Below.refl _ w4).alloc (Nat.le_refl _) _
      have RM5 := Lib.hid (RM4.out.below hba (Nat.le_refl _))
      have RS5 := Lib.hid (hr4.below hba (Nat.le_refl _))
      have HC4 := Lib.hid hc4
      obtain ⟨k1, k2, -, -⟩ := obj_two K5.out
      clear s1 s2 s3 hr4 hc4 hR4 hba K4 D4 RM4
      go_wp2_with fail
      generalize w4.alloc (.cells #[.int .i64 n, .slice a4 Ss.length c4] 67) = w5 at *
      refine Calls.mono (HA.out w5 D5.out a2 c2 Bs RM5.out R2.out HC2.out) ?_
      rintro e w6 ⟨hb6, As, t1, t2, t3, h6⟩
      have D6 := Lib.hid (D5.out.trans (hb6.mono D5.out.size))
      have J6 := Lib.hid (heap_kept J5.out hb6 (Nat.le_refl _))
      have RS6 := Lib.hid (RS5.out.below hb6 (Nat.le_refl _))
      have T3 : Hid (∀ y, Sp (vfs As) y ↔ Perp n (Sp (vfs rows)) y) := fun y => (t3 y).trans (perp_congr (fun x => by rw [HS0.out]; exact Q3.out x) y)
      clear hb6 HA K5 J5 D5 RM5 RS5 k1 k2
      rcases h6 with ⟨hR6, a6, c6, rfl, hr6, hc6⟩ | ⟨hn6, rfl⟩
      · have R6 := Lib.hid hR6
        have J7 := Lib.hid (heap_old J6.out (.cells #[.int .i64 n, .slice a6 As.length c6] 67))
        have I7 := Lib.hid (heap_at w6 #[.int .i64 n, .slice a6 As.length c6] 67 _ rfl)
        have D7 := Lib.hid (D6.out.alloc D6.out.size (.cells #[.int .i64 n, .slice a6 As.length c6] 67))
        have hba : Below w6.heap.size w6 (w6.alloc (.cells #[.int .i64 n, .slice a6 As.length c6] 67)) := (Below.refl _ w6).alloc (Nat.le_refl _) _
        have RS7 := Lib.hid (RS6.out.below hba (Nat.le_refl _))
        have RA7 := Lib.hid (hr6.below hba (Nat.le_refl _))
        have HC6 := Lib.hid hc6
        obtain ⟨k1, k2, -, -⟩ := obj_two J7.out
        obtain ⟨i1, i2, -, -⟩ := obj_two I7.out
        clear t1 t2 t3 hr6 hc6 hR6 hba J6 D6 RS6
        go_wp2_with fail
        generalize w6.alloc (.cells #[.int .i64 n, .slice a6 As.length c6] 67) = w7 at *
        go_quiet (fail)
        go_wp2_with fail
        go_ret3
        exact ⟨below_dn D7.out _, .inr ⟨Ss, As, a4, c4, a6, c6, rfl, R4.out, R6.out, S3.out, T3.out, RS7.out.below (below_drawn _ _) (Nat.le_refl _), HC4.out, RA7.out.below (below_drawn _ _) (Nat.le_refl _), HC6.out⟩⟩
      · have J7 := Lib.hid (heap_old J6.out (.cells #[.int .i64 0, .slice none 0 0] 67))
        have I7 := Lib.hid (heap_at w6 #[.int .i64 0, .slice none 0 0] 67 _ rfl)
        have D7 := Lib.hid (D6.out.alloc D6.out.size (.cells #[.int .i64 0, .slice none 0 0] 67))
        have U : Hid (UnfS n (Perp n (Sp (vfs rows)))) := ⟨As, t1, t2, T3.out, hn6⟩
        obtain ⟨k1, k2, -, -⟩ := obj_two J7.out
        obtain ⟨i1, i2, -, -⟩ := obj_two I7.out
        clear t1 t2 t3 hn6 J6 D6 RS6
        go_wp2_with fail
        generalize w6.alloc (.cells #[.int .i64 0, .slice none 0 0] 67) = w7 at *
        go_quiet (fail)
        go_wp2_with fail
        go_ret3
        exact ⟨below_dn D7.out _, .inl ⟨_, _, rfl, .inr (.inr U.out)⟩⟩
    · have U : Hid (UnfS n (Perp n (Perp n (Sp (vfs rows))))) := ⟨Ss, s1, s2, S3.out, hn4⟩
      have D7 := Lib.hid (D4.out.alloc D4.out.size (.cells #[.int .i64 0, .slice none 0 0] 67))
      clear s1 s2 s3 hn4
      go_wp2_with fail
      go_ret3
      exact ⟨D7.out, .inl ⟨_, _, rfl, .inr (.inl U.out)⟩⟩
  · have U : Hid (UnfS n (Sp (vfs rows))) := ⟨Bs, q1, q2, fun y => by rw [HS0.out]; exact Q3.out y, hn⟩
    have D7 := Lib.hid (D2.out.alloc D2.out.size (.cells #[.int .i64 0, .slice none 0 0] 67))
    clear q1 q2 q3 hn
    go_wp2_with fail
    go_ret3
    exact ⟨D7.out, .inl ⟨_, _, rfl, .inl U.out⟩⟩

end Go.Proofs.YtepicfdhphiiaaaGreatDoor

/- Lists of primes: slices.Clone, slices.Equal; temperament.FromCommas, FromMapping, Rank. -/
namespace Go.Proofs.YtepicfdhphiiaaaGreatDoor
open Go.RowKit

theorem pclone_ok (w : World) (b o c : Nat) (l : List Int) (hr : Rd w (some ⟨b, o, none⟩) (ints l)) (hl : l.length ≤ 1000) (h0 : 0 < l.length) :
    Calls Tryz.prog 44 #[.slice (some ⟨b, o, none⟩) l.length c] w fun e w' => ∃ g d, e = .returned (.slice (some ⟨g, 0, none⟩) l.length d) ∧ OwnI w' w.heap.size (some ⟨g, 0, none⟩) d l ∧ Below w.heap.size w w' := by
  obtain ⟨i0, hi, hz0, hz1, hz2⟩ := info_parts infoP
  have q22 : ∀ (w : World) (a : Option Addr) (n c n' c' : Nat), (binOp .eql 28 (.slice a n c) (.slice none n' c')).run Tryz.prog w = .ok (.bool a.isNone) w := fun w a n c n' c' => Lib.run_eql_slice_nil w _ _ a n c n' c' Tryz.underlying28
  obtain ⟨b', off, e0, hb', hc0⟩ := hr.open (by rw [ints_length]; exact h0)
  simp only [Option.some.injEq, Addr.mk.injEq, and_true] at e0
  obtain ⟨rfl, rfl⟩ := e0
  have Hc : Hid (∀ j u, (ints l)[j]? = some u → w.cell? ⟨b, o + j, none⟩ = some u) := hc0
  have Hone : Hid (∀ u ∈ ints l, u.oneCell' = true) := fun u hu => by
    obtain ⟨x, _, rfl⟩ := List.mem_map.1 hu
    rfl
  have Hlen : Hid ((ints l).length = l.length) := ints_length l
  clear hc0 hr
  unfold OwnI
  generalize ints l = vs at *
  generalize l.length = n at *
  go_enter Tryz.func44, Tryz.ntmps44
  go_wp2_with (at_builtin; refine wpList_append_own _ rfl _ _ 28 rfl w.heap.size 3 i0 (.int .i64 0) 1 8 Tryz.underlying28 hi hz0 hz1 hz2 rfl (by decide) _ _ _ rfl (World.ownsRow_made w #[] 0 (Nat.le_refl _) (Nat.zero_le _) rfl) ⟨b, o, none⟩ n c vs rfl ?qc1 ?qc2 ?qc3 ?qc4 ?qc5 ?qc6 ?_)
  case qc1 => rw [Hlen.out]; omega
  case qc2 =>
    intro j u hj
    rw [Addr.add_lit]
    exact Lib.cell?_alloc_some _ (Hc.out j u hj)
  case qc3 => exact Hone.out
  case qc4 => unfold maxLen; omega
  case qc5 => omega
  case qc6 => simp
  intro v' w1 hown hgrow hnil
  obtain ⟨a3, d3, rfl⟩ := own_form hown
  have hown' : w1.ownsRow w.heap.size 3 1 (.slice a3 n d3) n vs := by simpa using hown
  have B := Lib.hid (((Below.refl _ w).alloc (Nat.le_refl _) (.cells #[] 3)).grown hgrow (by simp) (by intro k hk; simp [Value.ownBlock] at hk; omega))
  obtain ⟨g, cap, hv, -, -, -, -, -⟩ := own_open hown' h0
  simp only [Value.slice.injEq] at hv
  obtain ⟨rfl, -, rfl⟩ := hv
  have O := Lib.hid hown'
  clear hown hown' hgrow hnil
  go_wp2_with fail
  go_ret
  exact ⟨g, d3, rfl, O.out, B.out⟩

theorem rd_setRow {w : World} {a : Option Addr} {vs : List Value} {g : Nat} {cs cs' : Array Value} {t : TypeId} {fr : Nat × Nat} (h : Rd w a vs) (hg : w.heap[g]? = some (.cells cs t fr)) (hne : ∀ v ∈ vs, v ∉ cs) : Rd (w.setRow g cs') a vs := by
  rcases h with h | ⟨b, off, e, hb, hc⟩
  · exact .inl h
  · match vs, hne, hc with
    | [], _, _ => exact .inl rfl
    | v :: vs, hne, hc =>
      have hbg : b ≠ g := fun e2 => by
        subst e2
        have h1 := hc 0 v rfl
        rw [cell_of_row w b _ _ _ _ hg] at h1
        exact hne v List.mem_cons_self (Array.mem_of_getElem? h1)
      refine .inr ⟨b, off, e, by simpa using hb, fun i u hu => ?_⟩
      rw [← hc i u hu]
      exact (cell_heap (setRow_other w g b cs' hbg) _).1
/-- A block of empty slices is none that a matrix lies in. -/
theorem RdM.setRow {w : World} {a : Option Addr} {rows : List (List Int)} {n g : Nat} {cs cs' : Array Value} {t : TypeId} {fr : Nat × Nat} (h : RdM w a rows) (hr : Rect n rows) (hn : 0 < n) (hg : w.heap[g]? = some (.cells cs t fr)) (hcs : ∀ v ∈ cs, v = .slice none 0 0) : RdM (w.setRow g cs') a rows := by
  obtain ⟨A, h1, h2⟩ := h
  refine ⟨A, rd_setRow h1 hg fun v hv hc => ?_, fun i hi => rd_setRow (h2 i hi) hg fun v hv hc => ?_⟩
  · obtain ⟨i, hi, rfl⟩ := List.mem_map.1 hv
    have := hcs _ hc
    simp only [Value.slice.injEq] at this
    have hl := rect_len hr (List.mem_range.1 hi)
    omega
  · unfold ints at hv
    obtain ⟨x, _, rfl⟩ := List.mem_map.1 hv
    have := hcs _ hc
    simp at this
theorem nils3 : ∀ v ∈ (#[.slice none 0 0, .slice none 0 0, .slice none 0 0] : Array Value), v = .slice none 0 0 := fun v hv => by simpa using hv
theorem fr_tem {n : Nat} {R S A : List (List Int)} (hr : Rect n R) (hS : LatR n S) (hA : LatR n A) (h1 : ∀ y, Sp (vfs S) y ↔ Perp n (Perp n (Sp (vfs R))) y) (h2 : ∀ y, Sp (vfs A) y ↔ Perp n (Sp (vfs R)) y) : TemOk n S A ∧ TemOk n A S := by
  have e1 : ∀ y, Sp (vfs A) y ↔ Perp n (Sp (vfs S)) y := fun y => (h2 y).trans ((perp_three (rect_supp hr) y).symm.trans (perp_congr (fun x => (h1 x).symm) y))
  have e2 : ∀ y, Sp (vfs S) y ↔ Perp n (Sp (vfs A)) y := fun y => (h1 y).trans (perp_congr (fun x => (h2 x).symm) y)
  exact ⟨⟨hS.h, hA.h, hS.r, hA.r, hS.e, hA.e, e1, e2⟩, ⟨hA.h, hS.h, hA.r, hS.r, hA.e, hS.e, e2, e1⟩⟩
/-- What FromCommas leaves (FromMapping: with both matrices exchanged). -/
def FcE (w w' : World) (ps : List Int) (R : List (List Int)) (v : Bool) (e : Ending) : Prop :=
  Below w.heap.size w w' ∧ ((e = .returned (.tuple #[temV none 0 0 none 0 0 none 0 0, .int .i64 4]) ∧ (UnfS ps.length (Sp (vfs R)) ∨ UnfS ps.length (Perp ps.length (Perp ps.length (Sp (vfs R)))) ∨ UnfS ps.length (Perp ps.length (Sp (vfs R))))) ∨
    (∃ C M a0 c0 a1 c1 a2 c2, e = .returned (.tuple #[temV a0 ps.length c0 a1 C.length c1 a2 M.length c2, .int .i64 0]) ∧ TemOk ps.length C M ∧ TemM w' a0 ps a1 c1 C a2 c2 M ∧
      (∀ y, Sp (vfs (if v = true then M else C)) y ↔ Perp ps.length (Perp ps.length (Sp (vfs R))) y) ∧ ∀ y, Sp (vfs (if v = true then C else M)) y ↔ Perp ps.length (Sp (vfs R)) y))
theorem acode_rect {n : Nat} {rows : List (List Int)} (h : latcode n rows = 0) : Rect n rows := by
  unfold latcode at h
  split at h
  · simp at h
  · split at h
    · simp at h
    · exact (rows_nine h).1

theorem fromCommas_any (w : World) (a0 a : Option Addr) (c0 c : Nat) (ps : List Int) (rows : List (List Int)) (hp : Rd w a0 (ints ps)) (P : PsR ps) (hr : RdM w a rows) (hz : latcode ps.length rows = 0) (L : Laid w) :
    Calls Tryz.prog 21 #[.slice a0 ps.length c0, .slice a rows.length c] w fun e w' => FcE w w' ps rows false e := by
  obtain ⟨hp0, hp6⟩ := P.len
  have HFr := Lib.hid (fun W (hW : Below w.heap.size w W) => from_any W a0 a c0 c ps rows (hp.below hW (Nat.le_refl _)) P (hr.below hW (Nat.le_refl _)) hz (L.below hW))
  obtain ⟨b, off, rfl, -, -⟩ := hp.open (by rw [ints_length]; exact hp0)
  have HCl := Lib.hid (fun W (hW : Below w.heap.size w W) => pclone_ok W b off c0 ps (hp.below hW (Nat.le_refl _)) (by omega) hp0)
  have hrect := acode_rect hz
  have HFT := Lib.hid (fun S A => @fr_tem ps.length rows S A hrect)
  clear hp P hr hz L hrect
  unfold FcE temV
  obtain ⟨n, hn⟩ : ∃ n, ps.length = n := ⟨_, rfl⟩
  rw [hn] at HFr HCl HFT hp0 hp6 ⊢
  clear hn
  have K0 := Lib.hid (heap_at w #[.slice none 0 0, .slice none 0 0, .slice none 0 0] 32 _ rfl)
  have B0 := Lib.hid ((Below.refl w.heap.size w).alloc (Nat.le_refl _) (.cells #[.slice none 0 0, .slice none 0 0, .slice none 0 0] 32))
  go_enter Tryz.func21, Tryz.ntmps21
  go_wp2_with fail
  generalize w.alloc (.cells #[.slice none 0 0, .slice none 0 0, .slice none 0 0] 32) = w1 at *
  refine Calls.mono (HFr.out w1 B0.out) ?_
  rintro e w2 ⟨hb2, ⟨v1, v2, rfl, hU⟩ | ⟨S, A, a1, c1, a2, c2, rfl, hS, hA, h1, h2, r1, q1, r2, q2⟩⟩
  · have D2 := Lib.hid (B0.out.trans (hb2.mono B0.out.size))
    have P2 := Lib.hid (heap_kept K0.out hb2 (Nat.le_refl _))
    have U := Lib.hid hU
    clear hb2 hU HFr HCl HFT K0 B0
    go_wp2_with (refine wpList_store_row rfl 32 (.tmp 4) (.tmp 18) rfl w.heap.size _ rfl rfl 32 _ P2.out (by kernel_rfl) rfl (by simp [Value.oneCell']) ?_)
    refine bodyPost_ret (results_ct rfl _ _ w.heap.size 32 _ (0, 0) _ rfl (setRow_heap _ _ _ _ _ _ P2.out) Tryz.underlying32 rfl (by kernel_rfl)) rfl ⟨below_setRow D2.out (Nat.le_refl _) _, .inl ⟨rfl, U.out⟩⟩
  · have D2 := Lib.hid (B0.out.trans (hb2.mono B0.out.size))
    have P2 := Lib.hid (heap_kept K0.out hb2 (Nat.le_refl _))
    have HT := Lib.hid (HFT.out S A hS hA h1 h2)
    have H1 := Lib.hid h1
    have H2 := Lib.hid h2
    have R1 := Lib.hid r1
    have R2 := Lib.hid r2
    have Q1 := Lib.hid q1
    have Q2 := Lib.hid q2
    have S2 : Hid (w.heap.size < w2.heap.size) := (Array.getElem?_eq_some_iff.1 P2.out).1
    clear hb2 hS hA h1 h2 r1 q1 r2 q2 HFr HFT K0 B0
    go_wp2_with fail
    refine Calls.mono (HCl.out w2 D2.out) ?_
    rintro e w3 ⟨g, d, rfl, hown, hb3⟩
    have D3 := Lib.hid (D2.out.trans (hb3.mono D2.out.size))
    have P3 := Lib.hid (heap_kept P2.out hb3 (Nat.le_refl _))
    have RP := Lib.hid (own_rd hown)
    have hgd : w.heap.size < g := by
      have h3 := (World.ownsRow.lt hown g rfl).1
      have := S2.out
      omega
    have HG := Lib.hid hgd
    have R13 := Lib.hid (R1.out.below hb3 (Nat.le_refl _))
    have R23 := Lib.hid (R2.out.below hb3 (Nat.le_refl _))
    clear hown hb3 HCl D2 P2 R1 R2 hgd
    go_wp2_with (refine wpList_store_row rfl 32 (.tmp 4) (.tmp 24) rfl w.heap.size _ rfl rfl 32 _ P3.out (by kernel_rfl) rfl (by simp [Value.oneCell']) ?_)
    refine bodyPost_ret (results_ct rfl _ _ w.heap.size 32 _ (0, 0) _ rfl (setRow_heap _ _ _ _ _ _ P3.out) Tryz.underlying32 rfl (by kernel_rfl)) rfl ⟨below_setRow D3.out (Nat.le_refl _) _, .inr ⟨S, A, _, _, _, _, _, _, rfl, HT.out.1, ⟨rd_setRow RP.out P3.out fun v hv hc => ?_, R13.out.setRow HT.out.1.rc hp0 P3.out nils3, R23.out.setRow HT.out.1.rm hp0 P3.out nils3, Q1.out, Q2.out⟩, H1.out, H2.out⟩⟩
    unfold ints at hv
    obtain ⟨x, _, rfl⟩ := List.mem_map.1 hv
    have := nils3 _ hc
    simp at this

theorem fromMapping_any (w : World) (a0 a : Option Addr) (c0 c : Nat) (ps : List Int) (rows : List (List Int)) (hp : Rd w a0 (ints ps)) (P : PsR ps) (hr : RdM w a rows) (hz : latcode ps.length rows = 0) (L : Laid w) :
    Calls Tryz.prog 22 #[.slice a0 ps.length c0, .slice a rows.length c] w fun e w' => FcE w w' ps rows true e := by
  obtain ⟨hp0, hp6⟩ := P.len
  have HFr := Lib.hid (fun W (hW : Below w.heap.size w W) => from_any W a0 a c0 c ps rows (hp.below hW (Nat.le_refl _)) P (hr.below hW (Nat.le_refl _)) hz (L.below hW))
  obtain ⟨b, off, rfl, -, -⟩ := hp.open (by rw [ints_length]; exact hp0)
  have HCl := Lib.hid (fun W (hW : Below w.heap.size w W) => pclone_ok W b off c0 ps (hp.below hW (Nat.le_refl _)) (by omega) hp0)
  have hrect := acode_rect hz
  have HFT := Lib.hid (fun S A => @fr_tem ps.length rows S A hrect)
  clear hp P hr hz L hrect
  unfold FcE temV
  obtain ⟨n, hn⟩ : ∃ n, ps.length = n := ⟨_, rfl⟩
  rw [hn] at HFr HCl HFT hp0 hp6 ⊢
  clear hn
  have K0 := Lib.hid (heap_at w #[.slice none 0 0, .slice none 0 0, .slice none 0 0] 32 _ rfl)
  have B0 := Lib.hid ((Below.refl w.heap.size w).alloc (Nat.le_refl _) (.cells #[.slice none 0 0, .slice none 0 0, .slice none 0 0] 32))
  go_enter Tryz.func22, Tryz.ntmps22
  go_wp2_with fail
  generalize w.alloc (.cells #[.slice none 0 0, .slice none 0 0, .slice none 0 0] 32) = w1 at *
  refine Calls.mono (HFr.out w1 B0.out) ?_
  rintro e w2 ⟨hb2, ⟨v1, v2, rfl, hU⟩ | ⟨S, A, a1, c1, a2, c2, rfl, hS, hA, h1, h2, r1, q1, r2, q2⟩⟩
  · have D2 := Lib.hid (B0.out.trans (hb2.mono B0.out.size))
    have P2 := Lib.hid (heap_kept K0.out hb2 (Nat.le_refl _))
    have U := Lib.hid hU
    clear hb2 hU HFr HCl HFT K0 B0
    go_wp2_with (refine wpList_store_row rfl 32 (.tmp 4) (.tmp 18) rfl w.heap.size _ rfl rfl 32 _ P2.out (by kernel_rfl) rfl (by simp [Value.oneCell']) ?_)
    refine bodyPost_ret (results_ct rfl _ _ w.heap.size 32 _ (0, 0) _ rfl (setRow_heap _ _ _ _ _ _ P2.out) Tryz.underlying32 rfl (by kernel_rfl)) rfl ⟨below_setRow D2.out (Nat.le_refl _) _, .inl ⟨rfl, U.out⟩⟩
  · have D2 := Lib.hid (B0.out.trans (hb2.mono B0.out.size))
    have P2 := Lib.hid (heap_kept K0.out hb2 (Nat.le_refl _))
    have HT := Lib.hid (HFT.out S A hS hA h1 h2)
    have H1 := Lib.hid h1
    have H2 := Lib.hid h2
    have R1 := Lib.hid r1
    have R2 := Lib.hid r2
    have Q1 := Lib.hid q1
    have Q2 := Lib.hid q2
    have S2 : Hid (w.heap.size < w2.heap.size) := (Array.getElem?_eq_some_iff.1 P2.out).1
    clear hb2 hS hA h1 h2 r1 q1 r2 q2 HFr HFT K0 B0
    go_wp2_with fail
    refine Calls.mono (HCl.out w2 D2.out) ?_
    rintro e w3 ⟨g, d, rfl, hown, hb3⟩
    have D3 := Lib.hid (D2.out.trans (hb3.mono D2.out.size))
    have P3 := Lib.hid (heap_kept P2.out hb3 (Nat.le_refl _))
    have RP := Lib.hid (own_rd hown)
    have hgd : w.heap.size < g := by
      have h3 := (World.ownsRow.lt hown g rfl).1
      have := S2.out
      omega
    have HG := Lib.hid hgd
    have R13 := Lib.hid (R1.out.below hb3 (Nat.le_refl _))
    have R23 := Lib.hid (R2.out.below hb3 (Nat.le_refl _))
    clear hown hb3 HCl D2 P2 R1 R2 hgd
    go_wp2_with (refine wpList_store_row rfl 32 (.tmp 4) (.tmp 24) rfl w.heap.size _ rfl rfl 32 _ P3.out (by kernel_rfl) rfl (by simp [Value.oneCell']) ?_)
    refine bodyPost_ret (results_ct rfl _ _ w.heap.size 32 _ (0, 0) _ rfl (setRow_heap _ _ _ _ _ _ P3.out) Tryz.underlying32 rfl (by kernel_rfl)) rfl ⟨below_setRow D3.out (Nat.le_refl _) _, .inr ⟨A, S, _, _, _, _, _, _, rfl, HT.out.2, ⟨rd_setRow RP.out P3.out fun v hv hc => ?_, R23.out.setRow HT.out.2.rc hp0 P3.out nils3, R13.out.setRow HT.out.2.rm hp0 P3.out nils3, Q2.out, Q1.out⟩, H1.out, H2.out⟩⟩
    unfold ints at hv
    obtain ⟨x, _, rfl⟩ := List.mem_map.1 hv
    have := nils3 _ hc
    simp at this

end Go.Proofs.YtepicfdhphiiaaaGreatDoor

/- refinement: check, commas, refines, Refines; temperament.Rank. -/
namespace Go.Proofs.YtepicfdhphiiaaaGreatDoor
open Go.RowKit

/-- Where a temperament lies. -/
structure TLoc where
  a0 : Option Addr
  c0 : Nat
  a1 : Option Addr
  c1 : Nat
  a2 : Option Addr
  c2 : Nat
def TemT (w : World) (s : TLoc) (ps : List Int) (C M : List (List Int)) : Prop := TemM w s.a0 ps s.a1 s.c1 C s.a2 s.c2 M
theorem TemT.below {w w' : World} {s : TLoc} {ps : List Int} {C M : List (List Int)} {B : Nat} (h : TemT w s ps C M) (hb : Below B w w') (hB : w.heap.size ≤ B) : TemT w' s ps C M := TemM.below h hb hB
def tmV (s : TLoc) (n m k : Nat) : Value := temV s.a0 n s.c0 s.a1 m s.c1 s.a2 k s.c2
end Go.Proofs.YtepicfdhphiiaaaGreatDoor

/- refinement: commas, refines, Refines; temperament.Rank. -/
namespace Go.Proofs.YtepicfdhphiiaaaGreatDoor
open Go.RowKit

end Go.Proofs.YtepicfdhphiiaaaGreatDoor

/- refinement.join. -/
namespace Go.Proofs.YtepicfdhphiiaaaGreatDoor
open Go.RowKit

theorem TemT.setRow {w : World} {s : TLoc} {ps : List Int} {C M : List (List Int)} {g : Nat} {cs cs' : Array Value} {t : TypeId} {fr : Nat × Nat} (h : TemT w s ps C M) (R : TemOk ps.length C M) (hn : 0 < ps.length) (hg : w.heap[g]? = some (.cells cs t fr)) (hcs : ∀ v ∈ cs, v = .slice none 0 0) : TemT (w.setRow g cs') s ps C M := by
  refine ⟨rd_setRow h.p hg fun v hv hc => ?_, h.c.setRow R.rc hn hg hcs, h.m.setRow R.rm hn hg hcs, h.lc, h.lm⟩
  unfold ints at hv
  obtain ⟨x, _, rfl⟩ := List.mem_map.1 hv
  have := hcs _ hc
  simp at this

end Go.Proofs.YtepicfdhphiiaaaGreatDoor

/- refinement.Join, Meet. -/
namespace Go.Proofs.YtepicfdhphiiaaaGreatDoor
open Go.RowKit

end Go.Proofs.YtepicfdhphiiaaaGreatDoor

/- schismatop.lattice08. -/
namespace Go.Proofs.YtepicfdhphiiaaaGreatDoor
open Go.RowKit

end Go.Proofs.YtepicfdhphiiaaaGreatDoor

/- schismaref06.EqualRows, Equal; schismalaw12.Same, schismalaw18.Same. -/
namespace Go.Proofs.YtepicfdhphiiaaaGreatDoor
open Go.RowKit

theorem eqRows_any (w : World) (a1 a2 : Option Addr) (c1 c2 : Nat) (la lb : List Int) (r1 : Rd w a1 (ints la)) (r2 : Rd w a2 (ints lb)) (hbig : la.length ≤ 1000000) :
    Gives Tryz.prog 26 #[.slice a1 la.length c1, .slice a2 lb.length c2] w (.bool (decide (la = lb))) := by
  unfold Gives
  by_cases hl : la.length = lb.length
  · have R1 := Lib.hid r1
    have R2 := Lib.hid r2
    have Hyes : Hid (∀ k, (∀ j (h1 : j < la.length) (h2 : j < lb.length), j < k → la[j] = lb[j]) → k = la.length → la = lb) := fun k h hk => List.ext_getElem hl fun i h1 h2 => h i h1 h2 (by omega)
    have Hno : Hid (∀ k (h1 : k < la.length) (h2 : k < lb.length), la[k] ≠ lb[k] → ¬ la = lb) := fun k h1 h2 hne he => hne (by subst he; rfl)
    obtain ⟨n, hn⟩ : ∃ n, la.length = n := ⟨_, rfl⟩
    have hm : lb.length = n := hl.symm.trans hn
    rw [hn] at hbig
    rw [hn, hm]
    have Hn := Lib.hid hn
    have Hm := Lib.hid hm
    clear hl r1 r2 hn hm
    go_enter Tryz.func26, Tryz.ntmps26
    go_wp2_with fail
    go_loopw [5] (fun i wr => ∃ k : Nat, k ≤ n ∧ i = .int .i64 k ∧ Hid (∀ j (h1 : j < la.length) (h2 : j < lb.length), j < k → la[j] = lb[j]) ∧ Hid (Below w.heap.size w wr)) (fun i _ => n - (intOf i).toNat)
    case atStart => exact ⟨0, Nat.zero_le _, rfl, fun j _ _ hj => absurd hj (Nat.not_lt_zero _), Below.refl _ _⟩
    case round =>
      obtain ⟨k, hk, rfl, Hp, B⟩ := hrel
      by_cases hlt : k < n
      · have hlt' : (k : Int) < n := by omega
        have h1 : k < la.length := by rw [Hn.out]; exact hlt
        have h2 : k < lb.length := by rw [Hm.out]; exact hlt
        obtain ⟨g1, o1, rfl, hg1, hc1⟩ := R1.out.open (by rw [ints_length]; omega)
        obtain ⟨g2, o2, rfl, hg2, hc2⟩ := R2.out.open (by rw [ints_length]; omega)
        have x1 := hc1 k _ (ints_get la k h1)
        have x2 := hc2 k _ (ints_get lb k h2)
        rw [← B.out.cell (p := ⟨g1, o1 + k, none⟩) hg1] at x1
        rw [← B.out.cell (p := ⟨g2, o2 + k, none⟩) hg2] at x2
        have Hp' : Hid (la[k] = lb[k] → ∀ j (h1 : j < la.length) (h2 : j < lb.length), j < k + 1 → la[j] = lb[j]) := fun he j g1 g2 hj => by
          rcases Nat.lt_or_ge j k with h | h
          · exact Hp.out j g1 g2 h
          · have e : j = k := by omega
            subst e; exact he
        have Hnk := Lib.hid (Hno.out k h1 h2)
        clear Hp hc1 hc2
        generalize la[k] = p at *
        generalize lb[k] = q at *
        have q1 := cell_regrown x1
        have q2 := cell_regrown x2
        have HK := Lib.hid hlt
        by_cases hpq : p = q
        · have Hq := Lib.hid (Hp'.out hpq)
          subst hpq
          clear Hp' Hnk
          go_wp2_with fail
          clear x1 x2
          refine wp_region_quiet_below (by kernel_rfl) (by kernel_rfl) ?_
          repeat (first | go_big_quiet_step (fail) | quiet_step (fail))
          refine wpQuiet_nil ?_
          intro w6 hw6
          obtain ⟨⟨dq, osq⟩, rfl⟩ := hw6
          have B6 := Lib.hid (B.out.trans ((below_regrown wr dq osq).mono B.out.size))
          clear q1 q2 B
          generalize Go.Sort.grow (redrawn wr dq) osq = w6 at *
          go_wp2_with fail
          go_roundw
          case rel => exact ⟨k + 1, HK.out, by go_num, Hq, B6⟩
          case measure => simp [intOf]; omega
        · have Hz : Hid (decide (la = lb) = false) := decide_eq_false (Hnk.out hpq)
          have hpq' : (p == q) = false := by rw [beq_eq_false_iff_ne]; exact hpq
          clear Hp' Hnk
          go_wp2_with fail
          clear x1 x2
          refine wp_region_quiet_below (by kernel_rfl) (by kernel_rfl) ?_
          repeat (first | go_big_quiet_step (fail) | quiet_step (fail))
          refine wpQuiet_nil ?_
          intro w6 hw6
          obtain ⟨⟨dq, osq⟩, rfl⟩ := hw6
          have B6 := Lib.hid (B.out.trans ((below_regrown wr dq osq).mono B.out.size))
          clear q1 q2 B
          generalize Go.Sort.grow (redrawn wr dq) osq = w6 at *
          go_wp2_with fail
          go_ret
          exact ⟨by rw [Hz.out]; rfl, B6.out⟩
      · have hlt' : ¬ (k : Int) < n := by omega
        have Hz : Hid (decide (la = lb) = true) := decide_eq_true (Hyes.out k Hp.out (by rw [Hn.out]; omega))
        clear Hp
        go_wp2_with fail
        go_ret
        exact ⟨by rw [Hz.out]; rfl, B.out⟩
  · have Hz : Hid (decide (la = lb) = false) := decide_eq_false fun h => hl (by rw [h])
    have hne : ((la.length : Int) == lb.length) = false := by rw [beq_eq_false_iff_ne]; omega
    clear r1 r2 hl
    generalize la.length = n at *
    generalize lb.length = m at *
    go_enter Tryz.func26, Tryz.ntmps26
    go_wp2_with fail
    go_ret
    exact ⟨by rw [Hz.out]; rfl, Below.refl _ _⟩

theorem eqMat_any (w : World) (a b : Option Addr) (c d : Nat) (A B : List (List Int)) (hA : RdM w a A) (hB : RdM w b B) (hl : A.length ≤ 1000000) (hl2 : ∀ r ∈ A, r.length ≤ 1000000) :
    Gives Tryz.prog 36 #[.slice a A.length c, .slice b B.length d] w (.bool (decide (A = B))) := by
  unfold Gives
  by_cases hlen : A.length = B.length
  · have Hr := Lib.hid hA.rdi
    have Ho := Lib.hid hB.rdi
    have Hyes : Hid (∀ k, (∀ j, j < k → A.getD j [] = B.getD j []) → k = A.length → A = B) := fun k h hk => list_ext hlen fun i hi => h i (by omega)
    have Hno : Hid (∀ k, k < A.length → A.getD k [] ≠ B.getD k [] → ¬ A = B) := fun k _ hne he => hne (by rw [he])
    have Hl2 : Hid (∀ k, k < A.length → (A.getD k []).length ≤ 1000000) := fun k hk => hl2 _ (lrow_mem hk)
    obtain ⟨n, hn⟩ : ∃ n, A.length = n := ⟨_, rfl⟩
    have hm : B.length = n := hlen.symm.trans hn
    rw [hn] at hl
    rw [hn, hm]
    have Hn := Lib.hid hn
    have Hm := Lib.hid hm
    clear hlen hA hB hn hm hl2
    go_enter Tryz.func36, Tryz.ntmps36
    go_wp2_with fail
    go_loopw [5] (fun i wr => ∃ k : Nat, k ≤ n ∧ i = .int .i64 k ∧ Hid (∀ j, j < k → A.getD j [] = B.getD j []) ∧ Hid (Below w.heap.size w wr)) (fun i _ => n - (intOf i).toNat)
    case atStart => exact ⟨0, Nat.zero_le _, rfl, fun j hj => absurd hj (Nat.not_lt_zero _), Below.refl _ _⟩
    case round =>
      obtain ⟨k, hk, rfl, Hp, D⟩ := hrel
      by_cases hlt : k < n
      · have hlt' : (k : Int) < n := by omega
        obtain ⟨b0, off, rfl, hb0, a', c', k1, k2⟩ : ∃ b0 off, a = some ⟨b0, off, none⟩ ∧ b0 < w.heap.size ∧ ∃ a' c', w.cell? ⟨b0, off + k, none⟩ = some (.slice a' (A.getD k []).length c') ∧ Rd w a' (ints (A.getD k [])) := by
          rcases Hr.out with h | ⟨b0, off, h1, h2, h3⟩
          · have := Hn.out; rw [h] at this; simp at this; omega
          · obtain ⟨a', c', x1, x2⟩ := h3 k (by rw [Hn.out]; exact hlt)
            exact ⟨b0, off, h1, h2, a', c', x1, x2⟩
        obtain ⟨b1, off1, rfl, hb1, a2, c2, k3, k4⟩ : ∃ b0 off, b = some ⟨b0, off, none⟩ ∧ b0 < w.heap.size ∧ ∃ a' c', w.cell? ⟨b0, off + k, none⟩ = some (.slice a' (B.getD k []).length c') ∧ Rd w a' (ints (B.getD k [])) := by
          rcases Ho.out with h | ⟨b0, off, h1, h2, h3⟩
          · have := Hm.out; rw [h] at this; simp at this; omega
          · obtain ⟨a', c', x1, x2⟩ := h3 k (by rw [Hm.out]; exact hlt)
            exact ⟨b0, off, h1, h2, a', c', x1, x2⟩
        rw [← D.out.cell (p := ⟨b0, off + k, none⟩) hb0] at k1
        rw [← D.out.cell (p := ⟨b1, off1 + k, none⟩) hb1] at k3
        have HC := Lib.hid (fun W (hW : Below wr.heap.size wr W) => eqRows_any W a' a2 c' c2 (A.getD k []) (B.getD k []) ((k2.below D.out (Nat.le_refl _)).below hW (Nat.le_refl _)) ((k4.below D.out (Nat.le_refl _)).below hW (Nat.le_refl _)) (Hl2.out k (by rw [Hn.out]; exact hlt)))
        have Hnk := Lib.hid (Hno.out k (by rw [Hn.out]; exact hlt))
        have Hp' : Hid (A.getD k [] = B.getD k [] → ∀ j, j < k + 1 → A.getD j [] = B.getD j []) := fun he j hj => by
          rcases Nat.lt_or_ge j k with h | h
          · exact Hp.out j h
          · obtain rfl : j = k := by omega
            exact he
        have HK := Lib.hid hlt
        clear k2 k4 Hp
        unfold Gives at HC
        generalize A.getD k [] = xs at *
        generalize B.getD k [] = ys at *
        generalize xs.length = x at *
        generalize ys.length = y at *
        have hnon : Nonempty (NWm wr) := ⟨⟨wr, Below.refl _ _⟩⟩
        have q1 := NWm.cell k1
        have q3 := NWm.cell k3
        have I : Hid (Below wr.heap.size wr wr.drew) := (Below.refl _ _).drew
        obtain ⟨z, hz⟩ : ∃ z, decide (xs = ys) = z := ⟨_, rfl⟩
        rw [hz] at HC
        have HZ := Lib.hid hz
        clear hz
        go_wp2_with fail
        clear k1 k3
        refine RW.wp_region_readers 8 [(2,0),(2,1),(2,2),(1,3),(2,4),(2,5),(2,6),(1,7),(0,8),(0,9)] (fun w' => ∃ p : NWm wr, w' = p.w) (by kernel_rfl) (by kernel_rfl) ?_ ?_
        · exact ⟨⟨_, I.out⟩, rfl⟩
        iterate 8 ((first | refine RW.walkR_any ?_ | refine RW.walkR_read ?_); simp only [List.drop_succ_cons, List.drop_zero, List.take_succ_cons, List.take_zero]; go_big_quiet_step (fail); refine wpQuiet_nil ?_)
        clear hnon q1 q3
        refine RW.walkR_move ?_
        simp only [List.drop_succ_cons, List.drop_zero, List.take_succ_cons, List.take_zero]
        go_wp2_with fail
        refine Calls.mono (HC.out _ I.out) ?_
        rintro e w4 ⟨rfl, hb⟩
        have D4 := Lib.hid ((D.out.trans (I.out.mono D.out.size)).trans (hb.mono (Nat.le_trans D.out.size I.out.size)))
        clear hb I D HC
        go_wp2_with fail
        refine RW.walkR_move ?_
        simp only [List.drop_succ_cons, List.drop_zero, List.take_succ_cons, List.take_zero]
        go_wp2_with fail
        simp only [RW.walkR]
        cases z with
        | true =>
          have Hq := Lib.hid (Hp'.out (of_decide_eq_true HZ.out))
          clear Hp' Hnk
          go_wp2_with fail
          go_roundw
          case rel => exact ⟨k + 1, HK.out, by go_num, Hq, D4⟩
          case measure => simp [intOf]; omega
        | false =>
          have Hq : Hid (decide (A = B) = false) := decide_eq_false (Hnk.out (of_decide_eq_false HZ.out))
          clear Hp' Hnk
          go_wp2_with fail
          go_ret
          exact ⟨by rw [Hq.out]; rfl, D4.out⟩
      · have hlt' : ¬ (k : Int) < n := by omega
        have Hz : Hid (decide (A = B) = true) := decide_eq_true (Hyes.out k Hp.out (by rw [Hn.out]; omega))
        clear Hp
        go_wp2_with fail
        go_ret
        exact ⟨by rw [Hz.out]; rfl, D.out⟩
  · have Hz : Hid (decide (A = B) = false) := decide_eq_false fun h => hlen (by rw [h])
    have hne : ((A.length : Int) == B.length) = false := by rw [beq_eq_false_iff_ne]; omega
    clear hA hB hlen hl2
    generalize A.length = n at *
    generalize B.length = m at *
    go_enter Tryz.func36, Tryz.ntmps36
    go_wp2_with fail
    go_ret
    exact ⟨by rw [Hz.out]; rfl, Below.refl _ _⟩

end Go.Proofs.YtepicfdhphiiaaaGreatDoor

/- schismalaw18.same, Same, Fits. -/
namespace Go.Proofs.YtepicfdhphiiaaaGreatDoor
open Go.RowKit

/-- Both temperaments are equal. -/
def samB (ps qs : List Int) (C M D N : List (List Int)) : Bool := (decide (ps = qs) && decide (C = D)) && decide (M = N)
structure FewM (ps : List Int) (C M : List (List Int)) : Prop where
  p : ps.length ≤ 1000000
  c : C.length ≤ 1000000
  m : M.length ≤ 1000000
  rc : ∀ r ∈ C, r.length ≤ 1000000
  rm : ∀ r ∈ M, r.length ≤ 1000000
theorem TemOk.few {ps : List Int} {C M : List (List Int)} (R : TemOk ps.length C M) (P : PsR ps) : FewM ps C M := by
  have h1 := P.len
  have h2 := R.latC.len
  have h3 := R.latM.len
  exact ⟨by omega, by omega, by omega, fun r hr => by rw [R.rc r hr]; omega, fun r hr => by rw [R.rm r hr]; omega⟩

theorem same18_any (w : World) (s t : TLoc) (ps qs : List Int) (C M D N : List (List Int)) (hs : TemT w s ps C M) (ht : TemT w t qs D N) (F : FewM ps C M) :
    Gives Tryz.prog 19 #[tmV s ps.length C.length M.length, tmV t qs.length D.length N.length] w (.bool (samB ps qs C M D N)) := by
  unfold Gives samB
  have hsp : Rd w s.a0 (ints ps) := hs.p
  have htp : Rd w t.a0 (ints qs) := ht.p
  have hsc : RdM w s.a1 C := hs.c
  have htc : RdM w t.a1 D := ht.c
  have hsm : RdM w s.a2 M := hs.m
  have htm : RdM w t.a2 N := ht.m
  have H1 := Lib.hid (fun W (hW : Below w.heap.size w W) => eqRows_any W s.a0 t.a0 s.c0 t.c0 ps qs (hsp.below hW (Nat.le_refl _)) (htp.below hW (Nat.le_refl _)) F.p)
  have H2 := Lib.hid (fun W (hW : Below w.heap.size w W) => eqMat_any W s.a1 t.a1 s.c1 t.c1 C D (hsc.below hW (Nat.le_refl _)) (htc.below hW (Nat.le_refl _)) F.c F.rc)
  have H3 := Lib.hid (fun W (hW : Below w.heap.size w W) => eqMat_any W s.a2 t.a2 s.c2 t.c2 M N (hsm.below hW (Nat.le_refl _)) (htm.below hW (Nat.le_refl _)) F.m F.rm)
  clear hs ht F hsp htp hsc htc hsm htm
  unfold tmV temV
  generalize decide (ps = qs) = z1 at *
  generalize decide (C = D) = z2 at *
  generalize decide (M = N) = z3 at *
  generalize ps.length = n at *
  generalize qs.length = n' at *
  generalize C.length = m1 at *
  generalize M.length = m2 at *
  generalize D.length = k1 at *
  generalize N.length = k2 at *
  generalize s.a0 = sa0 at *
  generalize s.a1 = sa1 at *
  generalize s.a2 = sa2 at *
  generalize s.c0 = sc0 at *
  generalize s.c1 = sc1 at *
  generalize s.c2 = sc2 at *
  generalize t.a0 = ta0 at *
  generalize t.a1 = ta1 at *
  generalize t.a2 = ta2 at *
  generalize t.c0 = tc0 at *
  generalize t.c1 = tc1 at *
  generalize t.c2 = tc2 at *
  obtain ⟨w1, hw1⟩ : ∃ w1, ((w.alloc (.cells #[.slice sa0 n sc0, .slice sa1 m1 sc1, .slice sa2 m2 sc2] 32)).alloc (.cells #[.slice ta0 n' tc0, .slice ta1 k1 tc1, .slice ta2 k2 tc2] 32)) = w1 := ⟨_, rfl⟩
  have K0 : w1.heap[w.heap.size]? = some (.cells #[.slice sa0 n sc0, .slice sa1 m1 sc1, .slice sa2 m2 sc2] 32 (0, 0)) := by rw [← hw1]; exact heap_old (heap_at w _ _ _ rfl) _
  have K1 : w1.heap[w.heap.size + 1]? = some (.cells #[.slice ta0 n' tc0, .slice ta1 k1 tc1, .slice ta2 k2 tc2] 32 (0, 0)) := by rw [← hw1]; exact heap_at _ _ _ _ (by simp)
  have B0 : Hid (Below w.heap.size w w1) := by rw [← hw1]; exact ((Below.refl _ w).alloc (Nat.le_refl _) _).alloc (by simp) _
  have P0 := Lib.hid K0
  have P1 := Lib.hid K1
  obtain ⟨j0, j1, j2⟩ := three_cells K0
  obtain ⟨i0, i1, i2⟩ := three_cells K1
  rw [← hw1] at j0 j1 j2 i0 i1 i2
  have Hw1 := Lib.hid hw1
  clear K0 K1 hw1
  go_enter Tryz.func19, Tryz.ntmps19
  go_wp2_with fail
  rw [Hw1.out]
  clear j0 j1 j2 i0 i1 i2 Hw1
  refine Calls.mono (H1.out w1 B0.out) ?_
  rintro e w2 ⟨rfl, hb⟩
  have B2 := Lib.hid (B0.out.trans (hb.mono B0.out.size))
  obtain ⟨j0, j1, j2⟩ := three_cells (heap_kept P0.out hb (Nat.le_refl _))
  obtain ⟨i0, i1, i2⟩ := three_cells (heap_kept P1.out hb (Nat.le_refl _))
  have Q0 := Lib.hid (heap_kept P0.out hb (Nat.le_refl _))
  have Q1 := Lib.hid (heap_kept P1.out hb (Nat.le_refl _))
  clear hb H1 P0 P1 B0
  cases z1 with
  | false =>
    clear j0 j1 j2 i0 i1 i2 H2 H3
    go_wp2_with fail
    go_ret
    exact ⟨rfl, B2.out⟩
  | true =>
    go_wp2_with fail
    refine Calls.mono (H2.out w2 B2.out) ?_
    rintro e w3 ⟨rfl, hb⟩
    have B3 := Lib.hid (B2.out.trans (hb.mono B2.out.size))
    clear j0 j1 j2 i0 i1 i2
    obtain ⟨j0, j1, j2⟩ := three_cells (heap_kept Q0.out hb (Nat.le_refl _))
    obtain ⟨i0, i1, i2⟩ := three_cells (heap_kept Q1.out hb (Nat.le_refl _))
    clear hb H2 Q0 Q1 B2
    cases z2 with
    | false =>
      clear j0 j1 j2 i0 i1 i2 H3
      go_wp2_with fail
      go_ret
      exact ⟨rfl, B3.out⟩
    | true =>
      go_wp2_with fail
      refine Calls.mono (H3.out w3 B3.out) ?_
      rintro e w4 ⟨rfl, hb⟩
      have B4 := Lib.hid (B3.out.trans (hb.mono B3.out.size))
      clear hb H3 B3 j0 j1 j2 i0 i1 i2
      go_wp2_with fail
      go_ret
      exact ⟨by simp, B4.out⟩

end Go.Proofs.YtepicfdhphiiaaaGreatDoor

/- schismalaw18.build. -/
namespace Go.Proofs.YtepicfdhphiiaaaGreatDoor
open Go.RowKit

/-- Rows of a plan. -/
structure PlnR (n : Nat) (R : List (List Int)) : Prop where
  n0 : 0 < n
  n4 : n ≤ 4
  l : R.length ≤ 3
  r : Rect n R
  s : ∀ r ∈ R, ∀ x ∈ r, x.natAbs ≤ 9
theorem PlnR.code {n : Nat} {R : List (List Int)} (h : PlnR n R) : latcode n R = 0 := by
  have := h.n4
  have := h.l
  unfold latcode
  rw [if_neg (by omega), if_neg (by omega), acode_zero]
  intro r hr
  refine ⟨rcode_zero.2 ⟨by rw [h.r r hr]; omega, fun x hx => ?_⟩, h.r r hr⟩
  have := h.s r hr x hx
  unfold rfit
  omega
theorem PlnR.supp {n : Nat} {R : List (List Int)} (h : PlnR n R) : ∀ x, Sp (vfs R) x → Supp n x := rect_supp h.r
/-- A lattice that a call leaves without an error. -/
def LatK (w w' : World) (n : Nat) (S : Vc → Prop) (e : Ending) : Prop :=
  Below w.heap.size w w' ∧ ∃ Bs a c K, e = .returned (.tuple #[latV n a Bs.length c, .int .i64 0]) ∧ LatR n Bs ∧ (∀ y, Sp (vfs Bs) y ↔ S y) ∧ BldR w' w.heap.size a c Bs.length n K (ent Bs)
theorem LatE.k {w w' : World} {n : Nat} {S : Vc → Prop} {e : Ending} (h : LatE w w' n S e) (hS : ∀ Bs, IsHnf Bs → Rect n Bs → (∀ y, Sp (vfs Bs) y ↔ S y) → ∀ i, i < Bs.length → ∀ j, (ent Bs i j).natAbs ≤ 1000000000) : LatK w w' n S e := by
  obtain ⟨hb, Bs, b1, b2, b3, ⟨hR, a, c, K, rfl, hr⟩ | ⟨⟨i, j, hi, hj, hn⟩, _⟩⟩ := h
  · exact ⟨hb, Bs, a, c, K, rfl, hR, b3, hr⟩
  · exact absurd (hS Bs b1 b2 b3 i hi j) hn
theorem PlnR.of {n : Nat} {R : List (List Int)} (h : PlnR n R) (Bs : List (List Int)) (b1 : IsHnf Bs) (b2 : Rect n Bs) (b3 : ∀ y, Sp (vfs Bs) y ↔ Sp (vfs R) y) : ∀ i, i < Bs.length → ∀ j, (ent Bs i j).natAbs ≤ 1000000000 :=
  plan_of h.n4 h.l h.s b1 b2 (fun x hx => (b3 x).2 hx) fun x hx => ⟨1, by decide, by
    have e : (fun i => 1 * x i) = x := by funext i; omega
    rw [e]; exact (b3 x).1 hx⟩
theorem PlnR.sat {n : Nat} {R Bs0 : List (List Int)} (h : PlnR n R) (q1 : IsHnf Bs0) (q2 : Rect n Bs0) (q3 : ∀ y, Sp (vfs Bs0) y ↔ Sp (vfs R) y) (Bs : List (List Int)) (b1 : IsHnf Bs) (b2 : Rect n Bs) (b3 : ∀ y, Sp (vfs Bs) y ↔ Perp n (Perp n (Sp (vfs R))) y) : ∀ i, i < Bs.length → ∀ j, (ent Bs i j).natAbs ≤ 1000000000 :=
  plan_of h.n4 h.l h.s b1 b2 (fun x hx => (b3 x).2 (perp_in h.supp hx)) fun x hx => by
    obtain ⟨D, hD, h2⟩ := perp_perp_q (ech_ind q1.e) (rect_supp q2) x ((perp_congr (perp_congr fun y => (q3 y).symm) x).1 ((b3 x).1 hx))
    exact ⟨D, hD, (q3 _).1 h2⟩
end Go.Proofs.YtepicfdhphiiaaaGreatDoor

/- schismalaw12.Primes, Interval. -/
namespace Go.Proofs.YtepicfdhphiiaaaGreatDoor
open Go.RowKit

/-- The lists of primes. -/
def plL : Nat → List Int
  | 0 => [2, 3, 5] | 1 => [2, 3, 5, 7] | 2 => [2, 3] | 3 => [2, 3, 7] | 4 => [2, 5, 7] | 5 => [3, 5, 7] | 6 => [2, 3, 5, 11] | 7 => [2] | 8 => [2, 3, 7, 13] | _ => [3, 5, 7, 13]
theorem plL_ok : ∀ k, k < 10 → pcode (plL k) = 0 ∧ (plL k).length ≤ 4 ∧ 0 < (plL k).length ∧ (∀ p ∈ plL k, 2 ≤ p ∧ p ≤ 13) := by decide +kernel
theorem plL_ps {k : Nat} (h : k < 10) : PsR (plL k) := ⟨(plL_ok k h).1, fun p hp => by have := (plL_ok k h).2.2.2 p hp; omega⟩

end Go.Proofs.YtepicfdhphiiaaaGreatDoor

/- schismalaw18.Make. -/
namespace Go.Proofs.YtepicfdhphiiaaaGreatDoor
open Go.RowKit

/-- Rows of four small numbers that came in. -/
def PlM (w : World) (a : Option Addr) (m : Nat) (X : Nat → Nat → Int) : Prop :=
  m = 0 ∨ ∃ b off, a = some ⟨b, off, none⟩ ∧ b < w.heap.size ∧ ∀ i, i < m → ∀ j, j < 4 → w.cell? ⟨b, off + i * 4 + j, none⟩ = some (.int .i8 (X i j))
theorem PlM.below {w w' : World} {a : Option Addr} {m : Nat} {X : Nat → Nat → Int} {B : Nat} (h : PlM w a m X) (hb : Below B w w') (hB : w.heap.size ≤ B) : PlM w' a m X := by
  rcases h with h | ⟨b, off, e, hl, hc⟩
  · exact .inl h
  · exact .inr ⟨b, off, e, Nat.lt_of_lt_of_le hl hb.size, fun i hi j hj => by rw [(cell_heap (hb.block b (Nat.lt_of_lt_of_le hl hB)) _).1]; exact hc i hi j hj⟩
end Go.Proofs.YtepicfdhphiiaaaGreatDoor

/- schismatop.three08, schismalaw18.Fits. -/
namespace Go.Proofs.YtepicfdhphiiaaaGreatDoor
open Go.RowKit

/-- Worlds in which nine cells hold their values. -/
structure NinW (g1 g2 g3 : Nat) (x0 x1 x2 y0 y1 y2 z0 z1 z2 : Value) where
  w : World
  a0 : w.cell? ⟨g1, 0, none⟩ = some x0
  a1 : w.cell? ⟨g1, 1, none⟩ = some x1
  a2 : w.cell? ⟨g1, 2, none⟩ = some x2
  b0 : w.cell? ⟨g2, 0, none⟩ = some y0
  b1 : w.cell? ⟨g2, 1, none⟩ = some y1
  b2 : w.cell? ⟨g2, 2, none⟩ = some y2
  c0 : w.cell? ⟨g3, 0, none⟩ = some z0
  c1 : w.cell? ⟨g3, 1, none⟩ = some z1
  c2 : w.cell? ⟨g3, 2, none⟩ = some z2

end Go.Proofs.YtepicfdhphiiaaaGreatDoor

/- prime.Text, row.Text. -/
namespace Go.Proofs.YtepicfdhphiiaaaGreatDoor
open Go.RowKit

/-- Numbers as texts. -/
def itL (xs : List Int) : List ByteArray := xs.map itx
theorem itL_length (xs : List Int) : (itL xs).length = xs.length := by simp [itL]
theorem getD_mem {l : List Int} {k : Nat} (h : k < l.length) : l.getD k 0 ∈ l := by
  rw [List.getD_eq_getElem?_getD, List.getElem?_eq_getElem h]
  exact List.getElem_mem h
theorem itL_take (xs : List Int) (k : Nat) (h : k < xs.length) : itL (xs.take (k + 1)) = itL (xs.take k) ++ [itx (xs.getD k 0)] := by
  unfold itL
  rw [List.getD_eq_getElem?_getD, List.getElem?_eq_getElem h]
  rw [List.take_succ_eq_append_getElem h, List.map_append]; rfl
def jT (xs : List Int) (sep : UInt8) : ByteArray := ⟨(Lib.join ((itL xs).map (·.data.toList)) [sep]).toArray⟩
theorem itL_size {xs : List Int} (h : I64s xs) : ∀ s ∈ itL xs, s.size ≤ 20 := fun s hs => by
  obtain ⟨x, hx, rfl⟩ := List.mem_map.1 hs
  have := h x hx
  exact itx_size x 19 (by decide) (by have e : (10 : Nat) ^ 19 = 10000000000000000000 := rfl; omega)

theorem primeText_any (w : World) (a : Option Addr) (c : Nat) (ps : List Int) (P : PsR ps) (hp : Rd w a (ints ps)) (hi : I64s ps) (hl : ps.length ≤ 100) (L : Laid w) :
    Gives Tryz.prog 48 #[.slice a ps.length c] w (.tuple #[.string (jT ps 46), .int .i64 0]) := by
  unfold Gives
  have hk := primeCheck_any w a c ps hp hi (by omega)
  rw [P.c] at hk
  have Hk := Lib.hid hk
  have HI := Lib.hid (fun k (h : k < ps.length) W (hW : Below w.heap.size w W) => itoa_any W (ps.getD k 0) (hi _ (getD_mem h)).1 (hi _ (getD_mem h)).2 (L.below hW))
  have Hrp := Lib.hid hp
  have Hj : Hid ((Lib.join ((itL ps).map (·.data.toList)) [46]).length ≤ 2100) := by
    have := join_le (itL ps) [46] 20 (itL_size hi)
    rw [itL_length] at this
    show _ ≤ _
    have e : [(46 : UInt8)].length = 1 := rfl
    rw [e] at this
    omega
  have HT := Lib.hid (fun k (h : k < ps.length) => itL_take ps k h)
  have HV : Hid (⟨(Lib.join ((itL ps).map (·.data.toList)) [46]).toArray⟩ = jT ps 46) := rfl
  have HLn := Lib.hid (fun k => itL_length (ps.take k))
  have HL := Lib.hid (fun k (h : k ≤ ps.length) => (show (ps.take k).length = k from by rw [List.length_take]; omega))
  have H0 : Hid (itL (ps.take 0) = []) := rfl
  have HA : Hid (itL (ps.take ps.length) = itL ps) := by show _ = _; rw [List.take_length]
  have HG : Hid (∀ i (h : i < ps.length), (ints ps)[i]? = some (.int .i64 (ps.getD i 0))) := fun i h => by rw [ints_get _ _ h, List.getD_eq_getElem?_getD, List.getElem?_eq_getElem h]; rfl
  have HN0 : Hid ((ints ps).length = ps.length) := ints_length ps
  clear hk hi L hp
  generalize hn : ps.length = n at *
  have Hn := Lib.hid hn
  clear hn
  go_enter Tryz.func48, Tryz.ntmps48
  go_wp2_with fail
  refine Calls.mono Hk.out ?_
  rintro e w1 ⟨rfl, hb⟩
  have B1 := Lib.hid hb
  clear hb Hk
  go_wp2_with fail
  go_loopw [5, 15] (fun o i wr => ∃ (k : Nat) (b : Option Addr) (d : Nat), k ≤ n ∧ i = .int .i64 k ∧ o = .slice b k d ∧ Hid (wr.ownsRow w.heap.size 9 1 (.slice b k d) k (strs (itL (ps.take k)))) ∧ Hid (Below w.heap.size w wr)) (fun _ i _ => n - (intOf i).toNat)
  case atStart => exact ⟨0, none, 0, Nat.zero_le _, rfl, rfl, by rw [H0.out]; exact World.ownsRow_nil .., B1⟩
  case round =>
    clear B1
    obtain ⟨k, b, d, hk, rfl, rfl, OWN, B⟩ := hrel
    by_cases hlt : k < n
    · have hlt' : (k : Int) < n := by omega
      have hltt : decide (k < n) = true := decide_eq_true hlt
      have hkp : k < ps.length := by rw [Hn.out]; exact hlt
      obtain ⟨bp, op, rfl, hbp, hcp⟩ := Hrp.out.open (by rw [HN0.out]; omega)
      have j0 : wr.cell? ⟨bp, op + k, none⟩ = some (.int .i64 (ps.getD k 0)) := by rw [← hcp k _ (HG.out k hlt)]; exact B.out.cell (p := ⟨bp, op + k, none⟩) hbp
      have Hsucc := Lib.hid (HT.out k hlt)
      have Hik := Lib.hid (fun W hW => HI.out k hlt W hW)
      generalize ps.getD k 0 = x at *
      clear hcp hbp
      go_wp2_with fail
      refine Calls.mono (Hik.out wr B.out) ?_
      rintro e w5 ⟨rfl, hb5⟩
      have B5 := Lib.hid (B.out.trans (hb5.mono B.out.size))
      have OWN5 := Lib.hid (own_below OWN.out hb5 (Nat.le_refl _))
      clear hb5 OWN B Hik j0
      go_wp2_with (at_builtin; refine wpList_append_one rfl (.tmp 19) (.tmp 22) 132 rfl elStr _ (.string (itx x)) rfl rfl OWN5.out B5.out.size rfl (by omega) (by omega) ?_)
      intro v' w9 hown9 hg9 hat9
      have Hb9 : Hid (Below w.heap.size w w9) := (B5.out.alloc B5.out.size _).grown hg9 (by simp; have := B5.out.size; omega) (fun k hk => (OWN5.out.lt k hk).1)
      obtain ⟨b9, d9, rfl⟩ := own_form hown9
      have Hown9 := Lib.hid hown9
      clear hown9 hg9 hat9 OWN5 B5
      go_wp2_with fail
      go_roundw
      case rel =>
        refine ⟨k + 1, b9, d9, by omega, by go_num, rfl, ?_, Hb9⟩
        show World.ownsRow ..
        rw [Hsucc.out, strs_append]
        exact Hown9.out
      case measure => simp [intOf]; omega
    · have hlt' : ¬ (k : Int) < n := by omega
      have hltt : decide (k < n) = false := decide_eq_false hlt
      obtain rfl : n = k := by omega
      have OW : Hid (wr.ownsRow w.heap.size 9 1 (.slice b n d) n (strs (itL ps))) := by rw [← HA.out]; exact OWN.out
      clear OWN
      obtain ⟨g, cap, hv, h1, h2, h3, h4, h5⟩ := own_open OW.out (by have := P.len.1; have := Hn.out; omega)
      simp only [Value.slice.injEq] at hv
      obtain ⟨rfl, -, rfl⟩ := hv
      have hLL : (itL ps).length = n := by rw [itL_length]; exact Hn.out
      have Hjj : Hid (Calls Tryz.prog 86 #[.slice (some ⟨g, 0, none⟩) n d, .string ⟨#[46]⟩] wr fun e w' => e = .returned (.string (jT ps 46)) ∧ Below wr.heap.size wr w') := by
        have := Go.Proofs.Any.strings_Join laysJ extraJ g 0 d (itL ps) ⟨#[46]⟩ wr (by
          intro j x hj
          have hjl := (List.getElem?_eq_some_iff.1 hj).1
          rw [Nat.zero_add, h4 j (by omega)]
          simp [strs, hj]) h2 (by omega) (by omega) (by show (Lib.join ((itL ps).map (·.data.toList)) [46]).length ≤ _; have := Hj.out; omega)
        rw [hLL] at this
        exact this
      clear h1 h2 h3 h4 h5 OW HI HT HV Hj
      go_wp2_with fail
      refine Calls.mono Hjj.out ?_
      rintro e w9 ⟨rfl, hb⟩
      have B9 := Lib.hid (B.out.trans (hb.mono B.out.size))
      clear hb Hjj
      go_wp2_with fail
      go_ret2
      exact ⟨rfl, B9.out⟩


theorem rowText_any (w : World) (a : Option Addr) (c : Nat) (ps : List Int) (z : Bool) (P : rcode ps = 0) (h0 : 0 < ps.length) (hp : Rd w a (ints ps)) (hi : I64s ps) (hl : ps.length ≤ 100) (L : Laid w) :
    Gives Tryz.prog 50 #[.slice a ps.length c, .bool z] w (.tuple #[.string (if z then ⟨#[91]⟩ ++ jT ps 32 ++ ⟨#[62]⟩ else ⟨#[60]⟩ ++ jT ps 32 ++ ⟨#[93]⟩), .int .i64 0]) := by
  unfold Gives
  have hk := rowCheck_any w a c ps hp (by omega)
  rw [P] at hk
  have Hk := Lib.hid hk
  have HI := Lib.hid (fun k (h : k < ps.length) W (hW : Below w.heap.size w W) => itoa_any W (ps.getD k 0) (hi _ (getD_mem h)).1 (hi _ (getD_mem h)).2 (L.below hW))
  have Hrp := Lib.hid hp
  have Hj : Hid ((Lib.join ((itL ps).map (·.data.toList)) [32]).length ≤ 2100) := by
    have := join_le (itL ps) [32] 20 (itL_size hi)
    rw [itL_length] at this
    show _ ≤ _
    have e : [(32 : UInt8)].length = 1 := rfl
    rw [e] at this
    omega
  have HT := Lib.hid (fun k (h : k < ps.length) => itL_take ps k h)
  have HV : Hid (⟨(Lib.join ((itL ps).map (·.data.toList)) [32]).toArray⟩ = jT ps 32) := rfl
  have HLn := Lib.hid (fun k => itL_length (ps.take k))
  have HL := Lib.hid (fun k (h : k ≤ ps.length) => (show (ps.take k).length = k from by rw [List.length_take]; omega))
  have H0 : Hid (itL (ps.take 0) = []) := rfl
  have HA : Hid (itL (ps.take ps.length) = itL ps) := by show _ = _; rw [List.take_length]
  have HG : Hid (∀ i (h : i < ps.length), (ints ps)[i]? = some (.int .i64 (ps.getD i 0))) := fun i h => by rw [ints_get _ _ h, List.getD_eq_getElem?_getD, List.getElem?_eq_getElem h]; rfl
  have HN0 : Hid ((ints ps).length = ps.length) := ints_length ps
  clear hk hi L hp
  generalize hn : ps.length = n at *
  have Hn := Lib.hid hn
  clear hn
  go_enter Tryz.func50, Tryz.ntmps50
  go_wp2_with fail
  refine Calls.mono Hk.out ?_
  rintro e w1 ⟨rfl, hb⟩
  have B1 := Lib.hid hb
  clear hb Hk
  go_wp2_with fail
  go_loopw [7, 18] (fun o i wr => ∃ (k : Nat) (b : Option Addr) (d : Nat), k ≤ n ∧ i = .int .i64 k ∧ o = .slice b k d ∧ Hid (wr.ownsRow w.heap.size 9 1 (.slice b k d) k (strs (itL (ps.take k)))) ∧ Hid (Below w.heap.size w wr)) (fun _ i _ => n - (intOf i).toNat)
  case atStart => exact ⟨0, none, 0, Nat.zero_le _, rfl, rfl, by rw [H0.out]; exact World.ownsRow_nil .., B1⟩
  case round =>
    clear B1
    obtain ⟨k, b, d, hk, rfl, rfl, OWN, B⟩ := hrel
    by_cases hlt : k < n
    · have hlt' : (k : Int) < n := by omega
      have hltt : decide (k < n) = true := decide_eq_true hlt
      have hkp : k < ps.length := by rw [Hn.out]; exact hlt
      obtain ⟨bp, op, rfl, hbp, hcp⟩ := Hrp.out.open (by rw [HN0.out]; omega)
      have j0 : wr.cell? ⟨bp, op + k, none⟩ = some (.int .i64 (ps.getD k 0)) := by rw [← hcp k _ (HG.out k hlt)]; exact B.out.cell (p := ⟨bp, op + k, none⟩) hbp
      have Hsucc := Lib.hid (HT.out k hlt)
      have Hik := Lib.hid (fun W hW => HI.out k hlt W hW)
      generalize ps.getD k 0 = x at *
      clear hcp hbp
      go_wp2_with fail
      refine Calls.mono (Hik.out wr B.out) ?_
      rintro e w5 ⟨rfl, hb5⟩
      have B5 := Lib.hid (B.out.trans (hb5.mono B.out.size))
      have OWN5 := Lib.hid (own_below OWN.out hb5 (Nat.le_refl _))
      clear hb5 OWN B Hik j0
      go_wp2_with (at_builtin; refine wpList_append_one rfl (.tmp 22) (.tmp 25) 132 rfl elStr _ (.string (itx x)) rfl rfl OWN5.out B5.out.size rfl (by omega) (by omega) ?_)
      intro v' w9 hown9 hg9 hat9
      have Hb9 : Hid (Below w.heap.size w w9) := (B5.out.alloc B5.out.size _).grown hg9 (by simp; have := B5.out.size; omega) (fun k hk => (OWN5.out.lt k hk).1)
      obtain ⟨b9, d9, rfl⟩ := own_form hown9
      have Hown9 := Lib.hid hown9
      clear hown9 hg9 hat9 OWN5 B5
      go_wp2_with fail
      go_roundw
      case rel =>
        refine ⟨k + 1, b9, d9, by omega, by go_num, rfl, ?_, Hb9⟩
        show World.ownsRow ..
        rw [Hsucc.out, strs_append]
        exact Hown9.out
      case measure => simp [intOf]; omega
    · have hlt' : ¬ (k : Int) < n := by omega
      have hltt : decide (k < n) = false := decide_eq_false hlt
      obtain rfl : n = k := by omega
      have OW : Hid (wr.ownsRow w.heap.size 9 1 (.slice b n d) n (strs (itL ps))) := by rw [← HA.out]; exact OWN.out
      clear OWN
      obtain ⟨g, cap, hv, h1, h2, h3, h4, h5⟩ := own_open OW.out (by exact h0)
      simp only [Value.slice.injEq] at hv
      obtain ⟨rfl, -, rfl⟩ := hv
      have hLL : (itL ps).length = n := by rw [itL_length]; exact Hn.out
      have Hjj : Hid (Calls Tryz.prog 86 #[.slice (some ⟨g, 0, none⟩) n d, .string ⟨#[32]⟩] wr fun e w' => e = .returned (.string (jT ps 32)) ∧ Below wr.heap.size wr w') := by
        have := Go.Proofs.Any.strings_Join laysJ extraJ g 0 d (itL ps) ⟨#[32]⟩ wr (by
          intro j x hj
          have hjl := (List.getElem?_eq_some_iff.1 hj).1
          rw [Nat.zero_add, h4 j (by omega)]
          simp [strs, hj]) h2 (by omega) (by omega) (by show (Lib.join ((itL ps).map (·.data.toList)) [32]).length ≤ _; have := Hj.out; omega)
        rw [hLL] at this
        exact this
      have hs1 : ¬ 9223372036854775807 < 1 + (jT ps 32).size := by have := Hj.out; have e : (jT ps 32).size = (Lib.join ((itL ps).map (·.data.toList)) [32]).length := rfl; omega
      have hs2 : ¬ 9223372036854775807 < 1 + (jT ps 32).size + 1 := by have := Hj.out; have e : (jT ps 32).size = (Lib.join ((itL ps).map (·.data.toList)) [32]).length := rfl; omega
      clear h1 h2 h3 h4 h5 OW HI HT HV Hj
      go_wp2_with fail
      refine Calls.mono Hjj.out ?_
      rintro e w9 ⟨rfl, hb⟩
      have B9 := Lib.hid (B.out.trans (hb.mono B.out.size))
      clear hb Hjj
      cases z with
      | true =>
        go_wp2_with fail
        go_ret2
        exact ⟨rfl, B9.out⟩
      | false =>
        go_wp2_with fail
        go_ret2
        exact ⟨rfl, B9.out⟩


end Go.Proofs.YtepicfdhphiiaaaGreatDoor

/- temperament.Text. -/
namespace Go.Proofs.YtepicfdhphiiaaaGreatDoor
open Go.RowKit Go.Shelf

def laysB_ren : Go.Shelf.Ren := ⟨fun | 167 => 51 | n => laysJ_ren.f n, laysJ_ren.t, laysJ_ren.g⟩
theorem laysS : Go.Proofs.Lays.n166 Tryz.prog laysJ_ren := { laysJ with }
theorem laysT : Go.Proofs.Lays.n169 Tryz.prog laysJ_ren := { laysJ with }
theorem laysB : Go.Proofs.Lays.n167 Tryz.prog laysB_ren :=
  { laysJ with
    f167 := Tryz.func51.trans (congrArg some (by kernel_rfl))
    t5 := extraJ.t5
    a5 := extraJ.a5
    z5 := extraJ.z5
    v5 := extraJ.v5 }
theorem extraB : Go.Proofs.Builder.Extra Tryz.prog laysB_ren :=
  { sizeBuilder := by kernel_rfl
    liesBuilder := by kernel_rfl
    t5 := Tryz.underlying5
    a5 := Tryz.isAgg5
    z5 := Tryz.sizeOf5
    v5 := Tryz.zeroValue5
    infoByte := by kernel_rfl
    cellsByte := by kernel_rfl
    sizeByte := by kernel_rfl
    neB5 := by decide }

/-- A builder in block B that holds some bytes. -/
def Bld (B : Nat) (l : List UInt8) (w : World) : Prop := Lib.IsBuilderF 91 5 B B (Lib.byteCells l) w
theorem Bld.lt {B : Nat} {l : List UInt8} {w : World} (h : Bld B l w) : B < w.heap.size := h.elim (fun h => h.lt) (fun h => h.lt)
theorem BldAt.below {T e : TypeId} {B b : Nat} {p : Value} {bs : List Value} {W W' : World} (h : Lib.BuilderAtF T e B b p bs W) (hb : Below W.heap.size W W') : Lib.BuilderAtF T e B b p bs W' := by
  have hlt := h.lt
  obtain ⟨hB, v, hv, hown, hne⟩ := h
  exact ⟨hB, v, (hb.block b hlt).trans hv, hown.kept (row := none) ⟨hb.os, hb.tape, hb.output, hb.size, fun k hk _ => hb.block k hk⟩ (Classical.em _), hne⟩
theorem Bld.below {B : Nat} {l : List UInt8} {w w' : World} (h : Bld B l w) (hb : Below w.heap.size w w') : Bld B l w' := h.elim (fun h => .inl (BldAt.below h hb)) (fun h => .inr (BldAt.below h hb))
theorem bcs_len (l : List UInt8) : (Lib.byteCells l).length = l.length := by simp [Lib.byteCells]
theorem bcs_snoc (l : List UInt8) (c : UInt8) : Lib.byteCells (l ++ [c]) = Lib.byteCells l ++ [.int .u8 c.toNat] := by simp [Lib.byteCells]
theorem bcs_str (l : List UInt8) (s : ByteArray) : Lib.byteCells (l ++ s.data.toList) = Lib.byteCells l ++ Lib.strCells s := by simp [Lib.byteCells, Lib.strCells]
/-- What a builder's call does. -/
structure BldE (B : Nat) (l : List UInt8) (w w' : World) : Prop where
  b : Bld B l w'
  d : Below B w w'
  o : ∀ (k : Nat) cs t fr, w.heap[k]? = some (.cells cs t fr) → t ≠ 5 → k ≠ B → w'.heap[k]? = some (.cells cs t fr)
theorem BldE.of {B : Nat} {l : List UInt8} {w w' : World} (hb : Bld B l w') (hd : Below B w w') (ho : Lib.OthersKept 5 (some B) w w') : BldE B l w w' :=
  ⟨hb, hd, fun k _ _ _ hk ht hkB => ho k _ hk (fun e => hkB (Option.some.inj e)) (fun _ _ e => by injection e with _ h _; exact ht h)⟩
theorem wrS_any (B : Nat) (l : List UInt8) (s : ByteArray) (w : World) (h : Bld B l w) (hl : l.length + s.size ≤ 1000000) :
    Calls Tryz.prog 49 #[.pointer (some ⟨B, 0, none⟩), .string s] w fun e w' => e = .returned (.tuple #[.int .i64 s.size, .nilIface]) ∧ BldE B (l ++ s.data.toList) w w' := by
  refine (Go.Proofs.Any.Builder_WriteString_k laysS extraJ B B (Lib.byteCells l) s w h (by rw [bcs_len]; omega) (Nat.le_of_lt h.lt)).mono ?_
  rintro e w' ⟨rfl, h1, h2, h3⟩
  exact ⟨rfl, .of (.inr (by rw [bcs_str]; exact h1)) h2 h3⟩
theorem wrB_any (B : Nat) (l : List UInt8) (c : UInt8) (w : World) (h : Bld B l w) (hl : l.length + 1 ≤ 1000000) :
    Calls Tryz.prog 51 #[.pointer (some ⟨B, 0, none⟩), .int .u8 c.toNat] w fun e w' => e = .returned .nilIface ∧ BldE B (l ++ [c]) w w' := by
  refine (Go.Proofs.Any.Builder_WriteByte_k laysB extraB B B (Lib.byteCells l) c.toNat w h (by rw [bcs_len]; omega) (Nat.le_of_lt h.lt)).mono ?_
  rintro e w' ⟨rfl, h1, h2, h3⟩
  exact ⟨rfl, .of (.inr (by rw [bcs_snoc]; exact h1)) h2 h3⟩
theorem bString_any (B : Nat) (l : List UInt8) (w : World) (h : Bld B l w) :
    Calls Tryz.prog 52 #[.pointer (some ⟨B, 0, none⟩)] w fun e w' => e = .returned (.string ⟨l.toArray⟩) ∧ Below B w w' := by
  refine (Go.Proofs.Any.Builder_String_any_k laysT extraJ B B l w h (Nat.le_of_lt h.lt)).mono ?_
  rintro e w' ⟨rfl, h1, h2, h3⟩
  exact ⟨rfl, h2⟩

/-- The bytes of a row, of rows, of a temperament. -/
def rTb (z : Bool) (xs : List Int) : ByteArray := if z then ⟨#[91]⟩ ++ jT xs 32 ++ ⟨#[62]⟩ else ⟨#[60]⟩ ++ jT xs 32 ++ ⟨#[93]⟩
def rowsB (z : Bool) (R : List (List Int)) : Nat → List UInt8
  | 0 => []
  | k + 1 => rowsB z R k ++ (if k = 0 then [] else [32]) ++ (rTb z (R.getD k [])).data.toList
def bodyB (z : Bool) (R : List (List Int)) : List UInt8 := if R.length = 0 then [110, 111, 110, 101] else rowsB z R R.length
def tagB (k : Nat) : ByteArray := if k = 0 then ⟨#[44, 32, 99, 111, 109, 109, 97, 115, 32]⟩ else ⟨#[44, 32, 109, 97, 112, 112, 105, 110, 103, 32]⟩
def partB (C M : List (List Int)) (k : Nat) : List (List Int) := if k = 0 then C else M
def preB (ps : List Int) (C M : List (List Int)) : Nat → List UInt8
  | 0 => (jT ps 46).data.toList
  | k + 1 => preB ps C M k ++ (tagB k).data.toList ++ bodyB (k == 0) (partB C M k)
theorem jT_size {xs : List Int} (sep : UInt8) (h : I64s xs) (hl : xs.length ≤ 100) : (jT xs sep).size ≤ 2100 := by
  have := join_le (itL xs) [sep] 20 (itL_size h)
  rw [itL_length] at this
  have e : [sep].length = 1 := rfl
  rw [e] at this
  show (Lib.join ((itL xs).map (·.data.toList)) [sep]).length ≤ _
  omega
theorem rTb_size {xs : List Int} (z : Bool) (h : I64s xs) (hl : xs.length ≤ 100) : (rTb z xs).size ≤ 2102 := by
  have := jT_size 32 h hl
  unfold rTb
  split <;> rw [ByteArray.size_append, ByteArray.size_append]
  · have e1 : (ByteArray.mk #[91]).size = 1 := rfl
    have e2 : (ByteArray.mk #[62]).size = 1 := rfl
    omega
  · have e1 : (ByteArray.mk #[60]).size = 1 := rfl
    have e2 : (ByteArray.mk #[93]).size = 1 := rfl
    omega
theorem rowsB_len (z : Bool) {R : List (List Int)} (hR : ∀ r ∈ R, I64s r ∧ r.length ≤ 100) : ∀ k, k ≤ R.length → (rowsB z R k).length ≤ k * 2103
  | 0, _ => Nat.le_refl _
  | k + 1, h => by
    have h1 := rowsB_len z hR k (by omega)
    have hm := hR _ (lrow_mem (show k < R.length by omega))
    have h2 := rTb_size z hm.1 hm.2
    have h3 : (rTb z (R.getD k [])).data.toList.length = (rTb z (R.getD k [])).size := by rw [Array.length_toList]; rfl
    unfold rowsB
    rw [List.length_append, List.length_append, h3]
    have h4 : (if k = 0 then ([] : List UInt8) else [32]).length ≤ 1 := by split <;> simp
    rw [Nat.add_mul]
    omega
theorem bodyB_len (z : Bool) {R : List (List Int)} (hR : ∀ r ∈ R, I64s r ∧ r.length ≤ 100) (hl : R.length ≤ 6) : (bodyB z R).length ≤ 12618 := by
  have := rowsB_len z hR R.length (Nat.le_refl _)
  unfold bodyB
  split
  · simp
  · omega
theorem preB_len {ps : List Int} {C M : List (List Int)} (h : I64s ps) (hl : ps.length ≤ 100) (hC : ∀ r ∈ C, I64s r ∧ r.length ≤ 100) (hM : ∀ r ∈ M, I64s r ∧ r.length ≤ 100) (lC : C.length ≤ 6) (lM : M.length ≤ 6) : ∀ k, (preB ps C M k).length ≤ 2100 + k * 12700
  | 0 => by
    have := jT_size 46 h hl
    unfold preB
    rw [Array.length_toList]
    show (jT ps 46).size ≤ _
    omega
  | k + 1 => by
    have h1 := preB_len h hl hC hM lC lM k
    have h2 : (bodyB (k == 0) (partB C M k)).length ≤ 12618 := by
      unfold partB
      split
      · exact bodyB_len _ hC lC
      · exact bodyB_len _ hM lM
    have h3 : (tagB k).data.toList.length ≤ 10 := by unfold tagB; split <;> decide
    unfold preB
    rw [List.length_append, List.length_append, Nat.add_mul]
    omega
theorem lat_rows {n : Nat} {R : List (List Int)} (h : LatR n R) (hn : n ≤ 64) : ∀ r ∈ R, I64s r ∧ r.length ≤ 100 ∧ rcode r = 0 ∧ r.length = n := fun r hr => by
  have hl := h.r r hr
  obtain ⟨i, hi, rfl⟩ := List.getElem_of_mem hr
  have hx : ∀ x ∈ R[i], rfit x := fun x hx => by
    obtain ⟨j, hj, rfl⟩ := List.getElem_of_mem hx
    have := h.e i hi j (by omega)
    have e : ent R i j = R[i][j] := by
      unfold ent
      rw [List.getD_eq_getElem?_getD (l := R), List.getElem?_eq_getElem hi, Option.getD_some, List.getD_eq_getElem?_getD, List.getElem?_eq_getElem hj]; rfl
    rw [e] at this
    unfold Fit at this
    unfold rfit
    omega
  refine ⟨fun x hx2 => ?_, by omega, rcode_zero.2 ⟨by omega, hx⟩, hl⟩
  have := hx x hx2
  unfold rfit at this
  omega

end Go.Proofs.YtepicfdhphiiaaaGreatDoor

/- temperament.Text: the walk. -/
namespace Go.Proofs.YtepicfdhphiiaaaGreatDoor
open Go.RowKit

theorem two_c {w : World} {g : Nat} {a b : Value} {t : TypeId} (h : w.heap[g]? = some (.cells #[a, b] t (0, 0))) : w.cell? ⟨g, 0, none⟩ = some a ∧ w.cell? ⟨g, 1, none⟩ = some b :=
  ⟨cell_of_row w g 0 _ _ _ h, cell_of_row w g 1 _ _ _ h⟩
/-- One of both parts. -/
theorem part_of {w : World} {g m1 c1 m2 c2 : Nat} {a1 a2 : Option Addr} {t : TypeId} (k : Nat) (hk : k < 2) (h : w.heap[g]? = some (.cells #[.string (tagB 0), .slice a1 m1 c1, .string (tagB 1), .slice a2 m2 c2] t (0, 0))) :
    w.cell? ⟨g, k * 2, none⟩ = some (.string (tagB k)) ∧ w.cell? ⟨g, k * 2 + 1, none⟩ = some (.slice (if k = 0 then a1 else a2) (if k = 0 then m1 else m2) (if k = 0 then c1 else c2)) := by
  rcases (show k = 0 ∨ k = 1 by omega) with rfl | rfl
  · exact ⟨cell_of_row w g 0 _ _ _ h, cell_of_row w g 1 _ _ _ h⟩
  · exact ⟨cell_of_row w g 2 _ _ _ h, cell_of_row w g 3 _ _ _ h⟩

theorem text18_any (w : World) (s : TLoc) (ps : List Int) (C M : List (List Int)) (hs : TemT w s ps C M) (P : PsR ps) (R : TemOk ps.length C M) (L : Laid w) :
    Gives Tryz.prog 24 #[tmV s ps.length C.length M.length] w (.tuple #[.string ⟨(preB ps C M 2).toArray⟩, .int .i64 0]) := by
  obtain ⟨hp0, hp6⟩ := P.len
  have Hn0 := Lib.hid hp0
  have hlen := R.len
  unfold Gives
  have HCk := Lib.hid (fun W (hW : Below w.heap.size w W) => temCheck_ok W s.a0 s.c0 ps s.a1 s.c1 C s.a2 s.c2 M (hs.below hW (Nat.le_refl _)) P R (L.below hW))
  have HPt := Lib.hid (fun W (hW : Below w.heap.size w W) => primeText_any W s.a0 s.c0 ps P (hs.p.below hW (Nat.le_refl _)) P.i (by omega) (L.below hW))
  have HPl := Lib.hid (preB_len P.i (by omega) (fun r hr => ⟨(lat_rows R.latC (by omega) r hr).1, (lat_rows R.latC (by omega) r hr).2.1⟩) (fun r hr => ⟨(lat_rows R.latM (by omega) r hr).1, (lat_rows R.latM (by omega) r hr).2.1⟩) (show C.length ≤ 6 by omega) (show M.length ≤ 6 by omega))
  have HRk : Hid (∀ k, RdM w (if k = 0 then s.a1 else s.a2) (partB C M k) ∧ (if k = 0 then C.length else M.length) = (partB C M k).length ∧ (partB C M k).length ≤ 6 ∧ (∀ r ∈ partB C M k, I64s r ∧ r.length ≤ 100 ∧ rcode r = 0 ∧ r.length = ps.length)) := fun k => by
    unfold partB
    by_cases h : k = 0
    · rw [if_pos h, if_pos h, if_pos h]
      exact ⟨hs.c, rfl, by omega, lat_rows R.latC (by omega)⟩
    · rw [if_neg h, if_neg h, if_neg h]
      exact ⟨hs.m, rfl, by omega, lat_rows R.latM (by omega)⟩
  have HL := Lib.hid (fun W (hW : Below w.heap.size w W) => L.below hW)
  have HP0 : Hid (preB ps C M 0 = (jT ps 46).data.toList) := rfl
  have HP1 := Lib.hid (fun k => (show preB ps C M (k + 1) = preB ps C M k ++ (tagB k).data.toList ++ bodyB (k == 0) (partB C M k) from rfl))
  clear hs P R L hp0 hp6 hlen
  unfold tmV temV at *
  generalize preB ps C M = pre at *
  generalize partB C M = prt at *
  generalize C.length = m1 at *
  generalize M.length = m2 at *
  generalize s.a0 = sa0 at *
  generalize s.a1 = sa1 at *
  generalize s.a2 = sa2 at *
  generalize s.c0 = sc0 at *
  generalize s.c1 = sc1 at *
  generalize s.c2 = sc2 at *
  obtain ⟨n, hn⟩ : ∃ n, ps.length = n := ⟨_, rfl⟩
  rw [hn] at HCk HPt HRk Hn0 ⊢
  clear hn
  have K0 := Lib.hid (heap_at w #[.slice sa0 n sc0, .slice sa1 m1 sc1, .slice sa2 m2 sc2] 32 _ rfl)
  have B0 := Lib.hid ((Below.refl w.heap.size w).alloc (Nat.le_refl _) (.cells #[.slice sa0 n sc0, .slice sa1 m1 sc1, .slice sa2 m2 sc2] 32))
  have S0 : Hid (w.heap.size < (w.alloc (.cells #[.slice sa0 n sc0, .slice sa1 m1 sc1, .slice sa2 m2 sc2] 32)).heap.size) := by show _ < _; rw [World.size_alloc]; omega
  obtain ⟨j0, j1, j2⟩ := three_cells K0.out
  go_enter Tryz.func24, Tryz.ntmps24
  go_wp2_with fail
  generalize w.alloc (.cells #[.slice sa0 n sc0, .slice sa1 m1 sc1, .slice sa2 m2 sc2] 32) = w0 at *
  refine Calls.mono (HCk.out w0 B0.out) ?_
  rintro e w1 ⟨rfl, hb⟩
  have K1 := Lib.hid (heap_kept K0.out hb (Nat.le_refl _))
  have B1 := Lib.hid (B0.out.trans (hb.mono B0.out.size))
  have S1 : Hid (w.heap.size < w1.heap.size) := Nat.lt_of_lt_of_le S0.out hb.size
  clear hb HCk K0 B0 S0 j0 j1 j2
  obtain ⟨j0, j1, j2⟩ := three_cells K1.out
  go_wp2_with fail
  refine Calls.mono (HPt.out w1 B1.out) ?_
  rintro e w2 ⟨rfl, hb⟩
  have K2 := Lib.hid (heap_kept K1.out hb (Nat.le_refl _))
  have B2 := Lib.hid (B1.out.trans (hb.mono B1.out.size))
  have S2 : Hid (w.heap.size < w2.heap.size) := Nat.lt_of_lt_of_le S1.out hb.size
  clear hb HPt K1 B1 S1 j0 j1 j2
  obtain ⟨w3, hw3⟩ : ∃ w3, w2.alloc (.cells #[.pointer none, .slice none 0 0] 91) = w3 := ⟨_, rfl⟩
  obtain ⟨g, hg⟩ : ∃ g, w2.heap.size = g := ⟨_, rfl⟩
  have BL3 : Hid (Bld g [] w3) := by
    rw [← hw3, ← hg]
    exact Lib.IsBuilderF.of (Lib.fresh_isBuilder _ _ _)
  have hba : Below w2.heap.size w2 w3 := by rw [← hw3]; exact (Below.refl _ w2).alloc (Nat.le_refl _) _
  have HW3 := Lib.hid hw3
  have HG := Lib.hid hg
  clear hw3
  have F3 : Hid (Below g w2 w3) := by rw [← HG.out]; exact hba
  clear hba
  go_wp2_with fail
  first | rw [HW3.out, HG.out] | rw [HW3.out]
  refine Calls.mono (wrS_any g [] _ w3 BL3.out ?h1) ?_
  case h1 => have := HPl.out 0; rw [HP0.out, Array.length_toList] at this; have e : (jT ps 46).size = (jT ps 46).data.size := rfl; simp; omega
  rintro e w4 ⟨rfl, E4⟩
  have F4 := Lib.hid (F3.out.trans E4.d)
  have BL4 : Hid (Bld g (pre 0) w4) := by rw [HP0.out]; exact E4.b
  have hgw : w.heap.size < g := by rw [← HG.out]; exact S2.out
  have K4 := Lib.hid (heap_kept K2.out (F4.out.mono (Nat.le_refl _) : Below g w2 w4) (by rw [HG.out]; exact Nat.le_refl _))
  clear BL3 HW3 E4 F3 K2 S2
  obtain ⟨j0, j1, j2⟩ := three_cells K4.out
  have hlt4 := BL4.out.lt
  obtain ⟨w5, hw5⟩ : ∃ w5, w4.alloc (.cells #[.string (tagB 0), .slice sa1 m1 sc1, .string (tagB 1), .slice sa2 m2 sc2] 96) = w5 := ⟨_, rfl⟩
  obtain ⟨gq, hgq⟩ : ∃ gq, w4.heap.size = gq := ⟨_, rfl⟩
  have hba : Below w4.heap.size w4 w5 := by rw [← hw5]; exact (Below.refl _ w4).alloc (Nat.le_refl _) _
  have BL5 := Lib.hid (BL4.out.below hba)
  have F5 := Lib.hid (F4.out.trans (hba.mono (Nat.le_of_lt hlt4)))
  have Q5 : Hid (w5.heap[gq]? = some (.cells #[.string (tagB 0), .slice sa1 m1 sc1, .string (tagB 1), .slice sa2 m2 sc2] 96 (0, 0))) := by rw [← hw5, ← hgq]; exact heap_at w4 _ _ _ rfl
  have hgg : g < gq := by rw [← hgq]; exact hlt4
  have HW5 : Hid (w4.alloc (.cells #[.string ⟨#[44, 32, 99, 111, 109, 109, 97, 115, 32]⟩, .slice sa1 m1 sc1, .string ⟨#[44, 32, 109, 97, 112, 112, 105, 110, 103, 32]⟩, .slice sa2 m2 sc2] 96) = w5) := hw5
  clear hw5 hba BL4 F4 hlt4 K4
  go_wp2_with fail
  rw [HW5.out]
  clear HW5 j0 j1 j2
  have HBw := Lib.hid B2.out
  clear B2
  go_loopw [40] (fun i wr => ∃ k : Nat, k ≤ 2 ∧ i = .int .i64 k ∧ Hid (Bld g (pre k) wr) ∧ Hid (Below g w2 wr) ∧ Hid (wr.heap[gq]? = some (.cells #[.string (tagB 0), .slice sa1 m1 sc1, .string (tagB 1), .slice sa2 m2 sc2] 96 (0, 0)))) (fun i _ => 2 - (intOf i).toNat)
  case atStart => exact ⟨0, by omega, rfl, BL5, F5, Q5⟩
  case round =>
    clear BL5 F5 Q5
    obtain ⟨k, hk, rfl, BL, F, Q⟩ := hrel
    by_cases hlt : k < 2
    · have hlt' : (k : Int) < 2 := by omega
      have hltt : decide (k < 2) = true := decide_eq_true hlt
      obtain ⟨p0, p1⟩ := part_of k hlt Q.out
      obtain ⟨hR, hm, hR6, hRr⟩ := HRk.out k
      have hz : ((k : Int) == (0 : Int)) = (k == 0) := by rcases (show k = 0 ∨ k = 1 by omega) with rfl | rfl <;> rfl
      have HPk := Lib.hid (HP1.out k)
      have HLk := Lib.hid (HPl.out k)
      have HLk1 := Lib.hid (HPl.out (k + 1))
      have htg : Hid ((tagB k).data.toList.length = (tagB k).size) := by show _ = _; rw [Array.length_toList]; rfl
      have htg10 : Hid ((tagB k).size ≤ 10) := by show _ ≤ _; unfold tagB; split <;> decide
      generalize tagB k = tg at *
      generalize (if k = 0 then sa1 else sa2) = A at *
      generalize (if k = 0 then m1 else m2) = m at *
      generalize (if k = 0 then sc1 else sc2) = c at *
      generalize prt k = R at *
      generalize (k == 0) = z at *
      have HR := Lib.hid hR
      have HRr := Lib.hid hRr
      have HM := Lib.hid hm
      rw [← hm] at hR6
      clear hR hRr hm
      obtain ⟨gi, hgi⟩ : ∃ gi, wr.heap.size = gi := ⟨_, rfl⟩
      obtain ⟨wa, hwa⟩ : ∃ wa, wr.alloc (.cells #[.string ⟨#[]⟩, .slice none 0 0] 96) = wa := ⟨_, rfl⟩
      have hba : Below wr.heap.size wr wa := by rw [← hwa]; exact (Below.refl _ wr).alloc (Nat.le_refl _) _
      have GA : Hid (wa.heap[gi]? = some (.cells #[.string ⟨#[]⟩, .slice none 0 0] 96 (0, 0))) := by rw [← hwa, ← hgi]; exact heap_at wr _ _ _ rfl
      have hbb : Below wr.heap.size wr (wa.setRow gi #[.string tg, .slice A m c]) := below_setRow hba (by omega) _
      have GB : Hid ((wa.setRow gi #[.string tg, .slice A m c]).heap[gi]? = some (.cells #[.string tg, .slice A m c] 96 (0, 0))) := setRow_heap _ _ _ _ _ _ GA.out
      have hlt5 := BL.out.lt
      have BLb := Lib.hid (BL.out.below hbb)
      have Fb := Lib.hid (F.out.trans (hbb.mono (Nat.le_of_lt hlt5)))
      have Qb := Lib.hid (heap_kept Q.out hbb (Nat.le_refl _))
      have hgig : g ≠ gi := by omega
      have HWa := Lib.hid hwa
      have HGi := Lib.hid hgi
      clear hba hbb hlt5 BL F Q hwa
      obtain ⟨l0, l1⟩ := two_c GB.out
      go_wp2_with (first | (rw [HWa.out]; refine wpList_store_row rfl 96 (.tmp 10) (.tmp 44) rfl gi _ rfl rfl 96 _ GA.out (by kernel_rfl) rfl (by simp [Value.oneCell']) ?_) | (refine wpList_store_row rfl 96 (.tmp 10) (.tmp 44) rfl gi _ rfl rfl 96 _ GA.out (by kernel_rfl) rfl (by simp [Value.oneCell']) ?_))
      clear l0 l1
      generalize wa.setRow gi #[.string tg, .slice A m c] = wb at *
      refine Calls.mono (wrS_any g (pre k) tg wb BLb.out (by have := HLk.out; have := htg10.out; omega)) ?_
      rintro e w6 ⟨rfl, E6⟩
      have Q6 := Lib.hid (E6.o gq _ _ _ Qb.out (by decide) (by omega))
      have G6 := Lib.hid (E6.o gi _ _ _ GB.out (by decide) (fun h => hgig h.symm))
      have F6 := Lib.hid (Fb.out.trans E6.d)
      have BL6 := Lib.hid E6.b
      clear E6 Qb GB Fb BLb GA HWa p0 p1
      obtain ⟨l0, l1⟩ := two_c G6.out
      by_cases hm0 : m = 0
      · have hm0' : ((m : Int) == (0 : Int)) = true := by rw [hm0]; rfl
        have hbody : bodyB z R = [110, 111, 110, 101] := by unfold bodyB; rw [if_pos (by rw [← HM.out]; exact hm0)]
        have HM0 := Lib.hid hm0
        have HKR := Lib.hid hlt
        clear hm0
        go_wp2_with fail
        refine Calls.mono (wrS_any g (pre k ++ tg.data.toList) ⟨#[110, 111, 110, 101]⟩ w6 BL6.out (by have := HLk.out; have := htg10.out; have := htg.out; have e : (ByteArray.mk #[110, 111, 110, 101]).size = 4 := rfl; rw [List.length_append]; omega)) ?_
        rintro e w7 ⟨rfl, E7⟩
        have Q7 := Lib.hid (E7.o gq _ _ _ Q6.out (by decide) (by omega))
        have F7 := Lib.hid (F6.out.trans E7.d)
        have BL7 : Hid (Bld g (pre (k + 1)) w7) := by rw [HPk.out, hbody]; exact E7.b
        have G7 := Lib.hid (E7.o gi _ _ _ G6.out (by decide) (fun h => hgig h.symm))
        clear E7 Q6 F6 BL6 l0 l1 G6
        obtain ⟨l0, l1⟩ := two_c G7.out
        go_wp2_with fail
        clear l0 l1 G7
        go_loopw [56] (fun i wx => i = .int .i64 0 ∧ Hid (Bld g (pre (k + 1)) wx) ∧ Hid (Below g w2 wx) ∧ Hid (wx.heap[gq]? = some (.cells #[.string (tagB 0), .slice sa1 m1 sc1, .string (tagB 1), .slice sa2 m2 sc2] 96 (0, 0)))) (fun _ _ => 0)
        case atStart => exact ⟨rfl, BL7, F7, Q7⟩
        case round =>
          clear BL7 F7 Q7
          obtain ⟨rfl, BL, F, Q⟩ := hrel
          have hlt2' : ¬ (0 : Int) < (m : Int) := by have := HM0.out; omega
          go_wp2_with fail
          go_roundw
          case rel => exact ⟨k + 1, by have := HKR.out; omega, by go_num, BL, F, Q⟩
          case measure => have := HKR.out; simp [intOf]; omega
      · have hm0' : ((m : Int) == (0 : Int)) = false := by rw [beq_eq_false_iff_ne]; omega
        have hbody : Hid (bodyB z R = rowsB z R m) := by show _ = _; unfold bodyB; rw [if_neg (by rw [← HM.out]; exact hm0), ← HM.out]
        have HKR := Lib.hid hlt
        go_wp2_with fail
        clear l0 l1 G6
        go_loopw [56] (fun i wx => ∃ t : Nat, t ≤ m ∧ i = .int .i64 t ∧ Hid (Bld g (pre k ++ tg.data.toList ++ rowsB z R t) wx) ∧ Hid (Below g w2 wx) ∧ Hid (wx.heap[gq]? = some (.cells #[.string (tagB 0), .slice sa1 m1 sc1, .string (tagB 1), .slice sa2 m2 sc2] 96 (0, 0)))) (fun i _ => m - (intOf i).toNat)
        case atStart => exact ⟨0, by omega, rfl, by show Bld ..; rw [show rowsB z R 0 = [] from rfl, List.append_nil]; exact BL6.out, F6, Q6⟩
        case round =>
          clear BL6 F6 Q6
          obtain ⟨t, ht, rfl, BL, F, Q⟩ := hrel
          by_cases hlt2 : t < m
          · have hlt2' : (t : Int) < m := by omega
            have hltt2 : decide (t < m) = true := decide_eq_true hlt2
            have Bw := Lib.hid (HBw.out.trans (F.out.mono (Nat.le_of_lt hgw)))
            have hmem := lrow_mem (show t < R.length by rw [← HM.out]; exact hlt2)
            obtain ⟨hi64, h100, hrc, hln⟩ := HRr.out _ hmem
            obtain ⟨A', hA, hrow⟩ := HR.out.below Bw.out (Nat.le_refl _)
            obtain ⟨b, off, rfl, hbl, hcell⟩ := hA.open (by rw [List.length_map, List.length_range, ← HM.out]; omega)
            have x0 : wr.cell? ⟨b, off + t, none⟩ = some (.slice (A' t).1 (R.getD t []).length (A' t).2) := hcell t _ (by rw [List.getElem?_map, List.getElem?_range (by rw [← HM.out]; exact hlt2)]; rfl)
            have hrow2 := hrow t (by rw [← HM.out]; exact hlt2)
            rw [hln] at x0
            have HT := Lib.hid (rowText_any wr (A' t).1 (A' t).2 (R.getD t []) z hrc (by rw [hln]; exact Hn0.out) hrow2 hi64 (by omega) (HL.out wr Bw.out))
            rw [hln] at HT
            have e : (if z = true then ByteArray.mk #[91] ++ jT (R.getD t []) 32 ++ ByteArray.mk #[62] else ByteArray.mk #[60] ++ jT (R.getD t []) 32 ++ ByteArray.mk #[93]) = rTb z (R.getD t []) := rfl
            rw [e] at HT
            have hsz := rTb_size z hi64 h100
            have hrl : (rowsB z R t).length ≤ t * 2103 := rowsB_len z (fun r hr => ⟨(HRr.out r hr).1, (HRr.out r hr).2.1⟩) t (by rw [← HM.out]; omega)
            have Hs : Hid (rowsB z R (t + 1) = rowsB z R t ++ (if t = 0 then [] else [32]) ++ (rTb z (R.getD t [])).data.toList) := rfl
            have hz2 : ((0 : Int) < (t : Int)) ↔ 0 < t := by omega
            have Hpk : Hid ((pre k ++ tg.data.toList ++ rowsB z R t).length ≤ 30000) := by
              have := HLk.out
              have := htg10.out
              have := htg.out
              show _ ≤ _
              rw [List.length_append, List.length_append]
              omega
            have HKR2 := Lib.hid hlt2
            generalize (A' t).1 = ra at *
            generalize (A' t).2 = rc at *
            generalize rTb z (R.getD t []) = rt at *
            clear hcell hA hrow hrow2 hmem hi64 h100 hrc hln e hrl
            go_wp2_with fail
            refine Calls.mono HT.out ?_
            rintro e w7 ⟨rfl, hb⟩
            have BL7 := Lib.hid (BL.out.below hb)
            have F7 := Lib.hid (F.out.trans (hb.mono (Nat.le_of_lt BL.out.lt)))
            have Q7 := Lib.hid (heap_kept Q.out hb (Nat.le_refl _))
            clear hb BL F Q HT x0
            by_cases ht0 : t = 0
            · have ht0' : ¬ (0 : Int) < (t : Int) := by omega
              rw [if_pos ht0, List.append_nil] at Hs
              clear ht0
              go_wp2_with fail
              refine Calls.mono (wrS_any g _ rt w7 BL7.out (by have := Hpk.out; omega)) ?_
              rintro e w8 ⟨rfl, E8⟩
              have Q8 := Lib.hid (E8.o gq _ _ _ Q7.out (by decide) (by omega))
              have F8 := Lib.hid (F7.out.trans E8.d)
              have BL8 : Hid (Bld g (pre k ++ tg.data.toList ++ rowsB z R (t + 1)) w8) := by rw [Hs.out, ← List.append_assoc]; exact E8.b
              clear E8 Q7 F7 BL7
              go_wp2_with fail
              go_roundw
              case rel => exact ⟨t + 1, by have := HKR2.out; omega, by go_num, BL8, F8, Q8⟩
              case measure => have := HKR2.out; simp [intOf]; omega
            · have ht0' : (0 : Int) < (t : Int) := by omega
              rw [if_neg ht0] at Hs
              clear ht0
              go_wp2_with fail
              refine Calls.mono (wrB_any g _ 32 w7 BL7.out (by have := Hpk.out; omega)) ?_
              rintro e w8 ⟨rfl, E8⟩
              have Q8 := Lib.hid (E8.o gq _ _ _ Q7.out (by decide) (by omega))
              have F8 := Lib.hid (F7.out.trans E8.d)
              have BL8 := Lib.hid E8.b
              clear E8 Q7 F7 BL7
              go_wp2_with fail
              refine Calls.mono (wrS_any g _ rt w8 BL8.out (by have := Hpk.out; rw [List.length_append]; simp only [List.length_cons, List.length_nil]; omega)) ?_
              rintro e w9 ⟨rfl, E9⟩
              have Q9 := Lib.hid (E9.o gq _ _ _ Q8.out (by decide) (by omega))
              have F9 := Lib.hid (F8.out.trans E9.d)
              have BL9 : Hid (Bld g (pre k ++ tg.data.toList ++ rowsB z R (t + 1)) w9) := by rw [Hs.out, ← List.append_assoc, ← List.append_assoc]; exact E9.b
              clear E9 Q8 F8 BL8
              go_wp2_with fail
              go_roundw
              case rel => exact ⟨t + 1, by have := HKR2.out; omega, by go_num, BL9, F9, Q9⟩
              case measure => have := HKR2.out; simp [intOf]; omega
          · have hlt2' : ¬ (t : Int) < m := by omega
            have hltt2 : decide (t < m) = false := decide_eq_false hlt2
            obtain rfl : m = t := by omega
            have BL7 : Hid (Bld g (pre (k + 1)) wr) := by rw [HPk.out, hbody.out]; exact BL.out
            go_wp2_with fail
            go_roundw
            case rel => exact ⟨k + 1, by have := HKR.out; omega, by go_num, BL7, F, Q⟩
            case measure => have := HKR.out; simp [intOf]; omega
    · have hlt' : ¬ (k : Int) < 2 := by omega
      have hltt : decide (k < 2) = false := decide_eq_false hlt
      obtain rfl : k = 2 := by omega
      have HS := Lib.hid (bString_any g (pre 2) wr BL.out)
      have Bw : Hid (Below w.heap.size w wr) := HBw.out.trans (F.out.mono (Nat.le_of_lt hgw))
      go_wp2_with fail
      refine Calls.mono HS.out ?_
      rintro e w9 ⟨rfl, hb⟩
      go_wp2_with fail
      go_ret2
      exact ⟨rfl, Bw.out.trans (hb.mono (Nat.le_of_lt hgw))⟩

end Go.Proofs.YtepicfdhphiiaaaGreatDoor

/- temperament.begin, temper, Temper. -/
namespace Go.Proofs.YtepicfdhphiiaaaGreatDoor
open Go.RowKit

theorem elLi : ElemOf Tryz.prog 82 84 (.string ⟨#[]⟩) 1 16 := ⟨Tryz.underlying82, info_parts infoL, rfl, by decide⟩
/-- A row's image. -/
def dotI (x r : List Int) : Nat → Int
  | 0 => 0
  | j + 1 => dotI x r j + x.getD j 0 * r.getD j 0
def tmL (x : List Int) (M : List (List Int)) (n : Nat) : List Int := M.map fun r => dotI x r n
theorem tmL_length (x : List Int) (M : List (List Int)) (n : Nat) : (tmL x M n).length = M.length := by simp [tmL]
theorem tmL_take (x : List Int) (M : List (List Int)) (n k : Nat) (h : k < M.length) : (tmL x M n).take (k + 1) = (tmL x M n).take k ++ [dotI x (M.getD k []) n] := by
  rw [List.take_succ_eq_append_getElem (by rw [tmL_length]; exact h)]
  congr 2
  unfold tmL
  rw [List.getElem_map, List.getD_eq_getElem?_getD, List.getElem?_eq_getElem h]; rfl
theorem getD_fit {x : List Int} (h : ∀ y ∈ x, rfit y) (j : Nat) : (x.getD j 0).natAbs ≤ 1000000000 := by
  rcases Nat.lt_or_ge j x.length with hj | hj
  · have := h _ (getD_mem hj)
    unfold rfit at this
    omega
  · rw [List.getD_eq_getElem?_getD, List.getElem?_eq_none hj]; simp
theorem dotI_le {x r : List Int} (hx : ∀ y ∈ x, rfit y) (hr : ∀ y ∈ r, rfit y) : ∀ j, (dotI x r j).natAbs ≤ j * 1000000000000000000
  | 0 => by unfold dotI; simp
  | j + 1 => by
    have h1 := dotI_le hx hr j
    have h2 : (x.getD j 0 * r.getD j 0).natAbs ≤ 1000000000 * 1000000000 := by rw [Int.natAbs_mul]; exact Nat.mul_le_mul (getD_fit hx j) (getD_fit hr j)
    unfold dotI
    have h3 := Int.natAbs_add_le (dotI x r j) (x.getD j 0 * r.getD j 0)
    rw [Nat.add_mul]
    omega
theorem big_lim : (1000000000000000000000 : Nat) ≤ LimN := by
  have e : (1000000000000000000000 : Nat) = 10 ^ 21 := rfl
  rw [e]
  exact lim_ten (by decide)

theorem begin_one (w : World) (s : TLoc) (ps : List Int) (C M : List (List Int)) (g : Nat) (ax : Option Addr) (cx : Nat) (x : List Int) (hg : w.heap[g]? = some (.cells #[.slice ax x.length cx] 54 (0, 0))) (hx : Rd w ax (ints x)) (hc : rcode x = 0) (hl : x.length = ps.length)
    (hs : TemT w s ps C M) (P : PsR ps) (R : TemOk ps.length C M) (L : Laid w) :
    Gives Tryz.prog 45 #[tmV s ps.length C.length M.length, .slice (some ⟨g, 0, none⟩) 1 1] w (.int .i64 0) := by
  obtain ⟨hp0, hp6⟩ := P.len
  unfold Gives
  have HCk := Lib.hid (fun W (hW : Below w.heap.size w W) => temCheck_ok W s.a0 s.c0 ps s.a1 s.c1 C s.a2 s.c2 M (hs.below hW (Nat.le_refl _)) P R (L.below hW))
  have HRk := Lib.hid (fun W (hW : Below w.heap.size w W) => by
    have := rowCheck_any W ax cx x (hx.below hW (Nat.le_refl _)) (by omega)
    rw [hc] at this
    exact this)
  have HG := Lib.hid hg
  clear hs P R L hp0 hp6 hg hx hc
  unfold tmV temV at *
  generalize C.length = m1 at *
  generalize M.length = m2 at *
  generalize s.a0 = sa0 at *
  generalize s.a1 = sa1 at *
  generalize s.a2 = sa2 at *
  generalize s.c0 = sc0 at *
  generalize s.c1 = sc1 at *
  generalize s.c2 = sc2 at *
  rw [hl] at HG HRk
  clear hl
  obtain ⟨n, hn⟩ : ∃ n, ps.length = n := ⟨_, rfl⟩
  rw [hn] at HCk HRk HG ⊢
  clear hn
  have K0 := Lib.hid (heap_at w #[.slice sa0 n sc0, .slice sa1 m1 sc1, .slice sa2 m2 sc2] 32 _ rfl)
  have B0 := Lib.hid ((Below.refl w.heap.size w).alloc (Nat.le_refl _) (.cells #[.slice sa0 n sc0, .slice sa1 m1 sc1, .slice sa2 m2 sc2] 32))
  obtain ⟨j0, j1, j2⟩ := three_cells K0.out
  go_enter Tryz.func45, Tryz.ntmps45
  go_wp2_with fail
  generalize w.alloc (.cells #[.slice sa0 n sc0, .slice sa1 m1 sc1, .slice sa2 m2 sc2] 32) = w0 at *
  refine Calls.mono (HCk.out w0 B0.out) ?_
  rintro e w1 ⟨rfl, hb⟩
  have K1 := Lib.hid (heap_kept K0.out hb (Nat.le_refl _))
  have B1 := Lib.hid (B0.out.trans (hb.mono B0.out.size))
  clear hb HCk B0 K0 j0 j1 j2
  go_wp2_with fail
  go_loopw [16] (fun i wr => ∃ k : Nat, k ≤ 1 ∧ i = .int .i64 k ∧ Hid (Below w.heap.size w wr) ∧ Hid (wr.heap[w.heap.size]? = some (.cells #[.slice sa0 n sc0, .slice sa1 m1 sc1, .slice sa2 m2 sc2] 32 (0, 0)))) (fun i _ => 1 - (intOf i).toNat)
  case atStart => exact ⟨0, by omega, rfl, B1, K1⟩
  case round =>
    clear B1 K1
    obtain ⟨k, hk, rfl, D, K⟩ := hrel
    rcases (show k = 0 ∨ k = 1 by omega) with rfl | rfl
    · have i0 : wr.cell? ⟨g, 0, none⟩ = some (.slice ax n cx) := cell_of_row wr g 0 _ _ _ (heap_kept HG.out D.out (Nat.le_refl _))
      go_wp2_with fail
      refine Calls.mono (HRk.out wr D.out) ?_
      rintro e w2 ⟨rfl, hb⟩
      have K2 := Lib.hid (heap_kept K.out hb (Nat.le_refl _))
      have D2 := Lib.hid (D.out.trans (hb.mono D.out.size))
      obtain ⟨j0, j1, j2⟩ := three_cells K2.out
      clear hb D K i0
      go_wp2_with fail
      go_roundw
      case rel => exact ⟨1, by omega, by go_num, D2, K2⟩
      case measure => simp [intOf]
    · go_wp2_with fail
      go_ret
      exact ⟨rfl, D.out⟩

end Go.Proofs.YtepicfdhphiiaaaGreatDoor

/- temperament.temper, Temper: the walks. -/
namespace Go.Proofs.YtepicfdhphiiaaaGreatDoor
open Go.RowKit

/-- Worlds in which one cell holds a value. -/
structure CelW (p : Addr) (x : Value) where
  w : World
  a : w.cell? p = some x

theorem dec_zero' : dec 0 = ⟨#[48]⟩ := by unfold dec; rw [Lib.decDigits]; rfl
theorem itx_zero' : itx 0 = ⟨#[48]⟩ := by rw [show itx 0 = dec 0 from itx_nat 0]; exact dec_zero'

theorem temper_any (w : World) (s : TLoc) (ps : List Int) (C M : List (List Int)) (ax : Option Addr) (cx : Nat) (x : List Int) (hx : Rd w ax (ints x)) (hc : rcode x = 0) (hl : x.length = ps.length)
    (hs : TemT w s ps C M) (P : PsR ps) (R : TemOk ps.length C M) (L : Laid w) :
    Calls Tryz.prog 46 #[tmV s ps.length C.length M.length, .slice ax x.length cx] w fun e w' => ∃ a c, e = .returned (.slice a M.length c) ∧ w'.ownsRow w.heap.size 84 1 (.slice a M.length c) M.length (zs (tmL x M ps.length)) ∧ Below w.heap.size w w' := by
  obtain ⟨hp0, hp6⟩ := P.len
  have hlen := R.len
  have hxf := (rcode_zero.1 hc).2
  have hMr := lat_rows R.latM (by omega)
  have HM := Lib.hid (fun k (hk : k < M.length) => hMr _ (lrow_mem hk))
  have HRM := Lib.hid hs.m
  have HXl : Hid (∀ W, Below w.heap.size w W → Laid W) := fun W hW => L.below hW
  have HXx : Hid (∃ b off, ax = some ⟨b, off, none⟩ ∧ b < w.heap.size ∧ ∀ W, Below w.heap.size w W → ∀ j, j < ps.length → W.cell? ⟨b, off + j, none⟩ = some (.int .i64 (x.getD j 0))) := by
    obtain ⟨b, off, e, hb, hcell⟩ := hx.open (by rw [ints_length]; omega)
    exact ⟨b, off, e, hb, fun W hW j hj => by
      rw [hW.cell (p := ⟨b, off + j, none⟩) hb]
      exact hcell j _ (by rw [ints_get _ _ (by omega), List.getD_eq_getElem?_getD, List.getElem?_eq_getElem (by omega)]; rfl)⟩
  have HT := Lib.hid (fun k (hk : k < M.length) => tmL_take x M ps.length k hk)
  have HT0 : Hid ((tmL x M ps.length).take 0 = []) := List.take_zero
  have HTn : Hid ((tmL x M ps.length).take M.length = tmL x M ps.length) := by show _ = _; rw [← tmL_length x M ps.length, List.take_length]
  have HD := Lib.hid (fun k (hk : k < M.length) j => dotI_le hxf (rcode_zero.1 (hMr _ (lrow_mem hk)).2.2.1).2 j)
  have HF := Lib.hid (fun k (hk : k < M.length) j => show ((M.getD k []).getD j 0).natAbs ≤ 1000000000 from getD_fit (rcode_zero.1 (hMr _ (lrow_mem hk)).2.2.1).2 j)
  have HFx := Lib.hid (fun j => getD_fit hxf j)
  have HS := Lib.hid (fun k j => (show dotI x (M.getD k []) (j + 1) = dotI x (M.getD k []) j + x.getD j 0 * (M.getD k []).getD j 0 from rfl))
  have HS0 := Lib.hid (fun k => (show dotI x (M.getD k []) 0 = 0 from rfl))
  have hm6 : M.length ≤ 6 := by omega
  have hcl : C.length ≤ 6 := by omega
  clear hs P R L hx hc hxf hMr hlen
  unfold tmV temV at *
  rw [hl]
  clear hl
  generalize tmL x M ps.length = TT at *
  obtain ⟨n, hn⟩ : ∃ n, ps.length = n := ⟨_, rfl⟩
  rw [hn] at HXx HT HM hp0 hp6 ⊢
  clear hn
  generalize C.length = m1 at *
  obtain ⟨m2, hm2⟩ : ∃ m2, M.length = m2 := ⟨_, rfl⟩
  have HMl := Lib.hid hm2
  rw [hm2] at HM HT HTn HD HF hm6 ⊢
  clear hm2
  generalize s.a0 = sa0 at *
  generalize s.a1 = sa1 at *
  generalize s.a2 = sa2 at *
  generalize s.c0 = sc0 at *
  generalize s.c1 = sc1 at *
  generalize s.c2 = sc2 at *
  obtain ⟨xb, xo, rfl, hxb, hxc⟩ := HXx.out
  have HXc := Lib.hid hxc
  clear hxc hxb HXx
  have B0 := Lib.hid ((Below.refl w.heap.size w).alloc (Nat.le_refl _) (.cells #[.slice sa0 n sc0, .slice sa1 m1 sc1, .slice sa2 m2 sc2] 32))
  obtain ⟨j0, j1, j2⟩ := three_cells (heap_at w #[.slice sa0 n sc0, .slice sa1 m1 sc1, .slice sa2 m2 sc2] 32 _ rfl)
  go_enter Tryz.func46, Tryz.ntmps46
  go_wp2_with fail
  generalize w.alloc (.cells #[.slice sa0 n sc0, .slice sa1 m1 sc1, .slice sa2 m2 sc2] 32) = w0 at *
  clear j0 j1 j2
  go_loopw [5, 14] (fun o i wr => ∃ (k : Nat) (a : Option Addr) (c : Nat), k ≤ m2 ∧ i = .int .i64 k ∧ o = .slice a k c ∧ Hid (wr.ownsRow w.heap.size 84 1 (.slice a k c) k (zs (TT.take k))) ∧ Hid (Below w.heap.size w wr)) (fun _ i _ => m2 - (intOf i).toNat)
  case atStart => exact ⟨0, none, 0, Nat.zero_le _, rfl, rfl, by rw [HT0.out]; exact World.ownsRow_nil .., B0⟩
  case round =>
    clear B0
    obtain ⟨k, a, c, hk, rfl, rfl, OWN, D⟩ := hrel
    by_cases hlt : k < m2
    · have hlt' : (k : Int) < m2 := by omega
      have hltt : decide (k < m2) = true := decide_eq_true hlt
      obtain ⟨hi64, h100, hrc, hln⟩ := HM.out k hlt
      obtain ⟨A', hA, hrow⟩ := HRM.out.below D.out (Nat.le_refl _)
      obtain ⟨b, off, rfl, hbl, hcell⟩ := hA.open (by rw [List.length_map, List.length_range, HMl.out]; omega)
      have x0 : wr.cell? ⟨b, off + k, none⟩ = some (.slice (A' k).1 (M.getD k []).length (A' k).2) := hcell k _ (by rw [List.getElem?_map, List.getElem?_range (by rw [HMl.out]; exact hlt)]; rfl)
      obtain ⟨rb, ro, hre, hrl, hrcell⟩ := (hrow k (by rw [HMl.out]; exact hlt)).open (by rw [ints_length]; omega)
      have HRc := Lib.hid (fun W (hW : Below wr.heap.size wr W) j (hj : j < n) => show W.cell? ⟨rb, ro + j, none⟩ = some (.int .i64 ((M.getD k []).getD j 0)) from by
        rw [hW.cell (p := ⟨rb, ro + j, none⟩) hrl]
        exact hrcell j _ (by rw [ints_get _ _ (by omega), List.getD_eq_getElem?_getD (l := M.getD k []), List.getElem?_eq_getElem (by omega)]; rfl))
      rw [hln, hre] at x0
      have HT1 := Lib.hid (HT.out k hlt)
      have HD1 := Lib.hid (HD.out k hlt)
      have HF1 := Lib.hid (HF.out k hlt)
      have HS1 := Lib.hid (HS.out k)
      have HS2 := Lib.hid (HS0.out k)
      generalize dotI x (M.getD k []) = dt at *
      generalize M.getD k [] = rw1 at *
      generalize (A' k).2 = rc at *
      have HK := Lib.hid hlt
      clear hcell hrow hA hre hrcell hi64 h100 hrc hln hbl hrl
      obtain ⟨w2, rfl⟩ : ∃ x, x = wr := ⟨_, rfl⟩
      go_wp2_with fail
      clear x0
      go_loopw [8, 20] (fun o i wx => ∃ j : Nat, j ≤ n ∧ i = .int .i64 j ∧ o = .string (itx (dt j)) ∧ Hid (Below w2.heap.size w2 wx)) (fun _ i _ => n - (intOf i).toNat)
      case atStart => exact ⟨0, Nat.zero_le _, rfl, by rw [HS2.out]; exact congrArg Value.string itx_zero'.symm, Below.refl _ _⟩
      case round =>
        obtain ⟨j, hj, rfl, rfl, E⟩ := hrel
        have Dx := Lib.hid (D.out.trans (E.out.mono D.out.size))
        by_cases hlt2 : j < n
        · have hlt2' : (j : Int) < n := by omega
          have hltt2 : decide (j < n) = true := decide_eq_true hlt2
          have y0 := HXc.out _ Dx.out j hlt2
          have HR2 := Lib.hid (fun W hW => HRc.out W hW j hlt2)
          have hu := HFx.out j
          have hv := HF1.out j
          have hd : (dt j).natAbs ≤ 6000000000000000000 := by have := HD1.out j; omega
          have HS3 := Lib.hid (HS1.out j)
          have HL := Lib.hid (fun W (hW : Below w2.heap.size w2 W) => HXl.out W (D.out.trans (hW.mono D.out.size)))
          have HJ := Lib.hid hlt2
          generalize hx' : x.getD j 0 = u at *
          generalize hv' : rw1.getD j 0 = v at *
          generalize hd' : dt j = dj at *
          clear hx' hv' hd'
          have hbig := big_lim
          have huv : (u * v).natAbs ≤ 1000000000000000000 := by
            rw [Int.natAbs_mul]
            exact Nat.mul_le_mul hu hv
          have O1 := Lib.hid (fun W (hW : Below w2.heap.size w2 W) => ofz_any W u (by omega) (by omega) (HL.out W hW))
          have O2 := Lib.hid (fun W (hW : Below w2.heap.size w2 W) => ofz_any W v (by omega) (by omega) (HL.out W hW))
          have O3 := Lib.hid (fun W (hW : Below w2.heap.size w2 W) => mulz_any W u v (lim_z (by omega)) (lim_z (by omega)) (lim_z (by omega)) (HL.out W hW))
          have O4 := Lib.hid (fun W (hW : Below w2.heap.size w2 W) => addz_any W dj (u * v) (lim_z (by omega)) (lim_z (by omega)) (lim_num (by omega)) (HL.out W hW))
          clear hu hv hd hbig huv
          go_wp2_with fail
          clear y0
          obtain ⟨wd, hwd⟩ : ∃ wd : World, { heap := wr.heap, tape := wr.tape, drawn := wr.drawn + 1, os := wr.os, output := wr.output } = wd := ⟨_, rfl⟩
          have J := Lib.hid (show Below wr.heap.size wr wd from by rw [← hwd]; exact ⟨rfl, rfl, rfl, Nat.le_refl _, fun _ _ => rfl⟩)
          have E1 := Lib.hid (E.out.trans (J.out.mono E.out.size))
          have HW := Lib.hid hwd
          clear hwd E J Dx
          have n6 : Nonempty (CelW ⟨rb, ro + j, none⟩ (.int .i64 v)) := ⟨⟨wd, HR2.out _ E1.out⟩⟩
          have q0 : ∀ p : CelW ⟨rb, ro + j, none⟩ (.int .i64 v), p.w.cell? ⟨rb, ro + j, none⟩ = some (.int .i64 v) := fun p => p.a
          refine RW.wp_region_readers 7 [(2,0),(2,1),(2,3),(2,4),(2,5),(1,6),(0,2),(0,7),(0,8),(0,9),(0,10)] (fun w' => ∃ p : CelW ⟨rb, ro + j, none⟩ (.int .i64 v), w' = p.w) (by kernel_rfl) (by kernel_rfl) ⟨⟨_, HR2.out _ E1.out⟩, HW.out⟩ ?_
          iterate 6 ((first | refine RW.walkR_any ?_ | refine RW.walkR_read ?_); simp only [List.drop_succ_cons, List.drop_zero, List.take_succ_cons, List.take_zero]; go_big_quiet_step (fail); refine wpQuiet_nil ?_)
          clear n6 q0
          rw [HW.out]
          clear HW
          refine RW.walkR_move ?_
          simp only [List.drop_succ_cons, List.drop_zero, List.take_succ_cons, List.take_zero]
          go_wp2_with fail
          refine Calls.mono (O1.out _ E1.out) ?_
          rintro e w3 ⟨rfl, hb⟩
          have E3 := Lib.hid (E1.out.trans (hb.mono E1.out.size))
          clear hb O1 E1
          go_wp2_with fail
          refine ⟨⟨⟨_, HR2.out _ E3.out⟩, rfl⟩, ?_⟩
          refine RW.walkR_move ?_
          simp only [List.drop_succ_cons, List.drop_zero, List.take_succ_cons, List.take_zero]
          go_wp2_with fail
          refine Calls.mono (O2.out _ E3.out) ?_
          rintro e w4 ⟨rfl, hb⟩
          have E4 := Lib.hid (E3.out.trans (hb.mono E3.out.size))
          clear hb O2 E3
          go_wp2_with fail
          refine RW.walkR_move ?_
          simp only [List.drop_succ_cons, List.drop_zero, List.take_succ_cons, List.take_zero]
          go_wp2_with fail
          refine Calls.mono (O3.out _ E4.out) ?_
          rintro e w5 ⟨rfl, hb⟩
          have E5 := Lib.hid (E4.out.trans (hb.mono E4.out.size))
          clear hb O3 E4
          go_wp2_with fail
          refine RW.walkR_move ?_
          simp only [List.drop_succ_cons, List.drop_zero, List.take_succ_cons, List.take_zero]
          go_wp2_with fail
          refine Calls.mono (O4.out _ E5.out) ?_
          rintro e w6 ⟨rfl, hb⟩
          have E6 := Lib.hid (E5.out.trans (hb.mono E5.out.size))
          clear hb O4 E5
          go_wp2_with fail
          refine RW.walkR_move ?_
          simp only [List.drop_succ_cons, List.drop_zero, List.take_succ_cons, List.take_zero]
          go_wp2_with fail
          simp only [RW.walkR]
          go_wp2_with fail
          go_roundw
          case rel => exact ⟨j + 1, by have := HJ.out; omega, by go_num, by rw [HS3.out], E6⟩
          case measure => have := HJ.out; simp [intOf]; omega
        · have hlt2' : ¬ (j : Int) < n := by omega
          have hltt2 : decide (j < n) = false := decide_eq_false hlt2
          obtain rfl : n = j := by omega
          have OW := Lib.hid (own_below OWN.out E.out (Nat.le_refl _))
          clear OWN
          go_wp2_with (at_builtin; refine wpList_append_one rfl (.tmp 36) (.tmp 38) 82 rfl elLi _ (.string (itx (dt n))) rfl rfl OW.out Dx.out.size rfl (by omega) (by omega) ?_)
          intro v' w9 hown9 hg9 hat9
          have Hb9 : Hid (Below w.heap.size w w9) := (Dx.out.alloc Dx.out.size _).grown hg9 (by simp; have := Dx.out.size; omega) (fun k hk => (OW.out.lt k hk).1)
          obtain ⟨b9, d9, rfl⟩ := own_form hown9
          have Hown9 : Hid (w9.ownsRow w.heap.size 84 1 (.slice b9 (k + 1) d9) (k + 1) (zs (TT.take (k + 1)))) := by
            show World.ownsRow ..
            rw [HT1.out, zs_app]
            exact hown9
          clear hown9 hg9 hat9 OW
          go_wp2_with fail
          go_roundw
          case rel => exact ⟨k + 1, b9, d9, by have := HK.out; omega, by go_num, rfl, Hown9, Hb9⟩
          case measure => have := HK.out; simp [intOf]; omega

    · have hlt' : ¬ (k : Int) < m2 := by omega
      have hltt : decide (k < m2) = false := decide_eq_false hlt
      obtain rfl : m2 = k := by omega
      go_wp2_with fail
      go_ret
      exact ⟨a, c, rfl, by rw [← HTn.out]; exact OWN.out, D.out⟩

end Go.Proofs.YtepicfdhphiiaaaGreatDoor

/- temperament.Temper. -/
namespace Go.Proofs.YtepicfdhphiiaaaGreatDoor
open Go.RowKit

theorem Temper_any (w : World) (s : TLoc) (ps : List Int) (C M : List (List Int)) (ax : Option Addr) (cx : Nat) (x : List Int) (hx : Rd w ax (ints x)) (hc : rcode x = 0) (hl : x.length = ps.length)
    (hs : TemT w s ps C M) (P : PsR ps) (R : TemOk ps.length C M) (L : Laid w) (hf : ∀ y ∈ tmL x M ps.length, y.natAbs ≤ 1000000000) :
    Calls Tryz.prog 23 #[tmV s ps.length C.length M.length, .slice ax x.length cx] w fun e w' => ∃ a c, e = .returned (.tuple #[.slice a M.length c, .int .i64 0]) ∧ w'.ownsRow w.heap.size 3 1 (.slice a M.length c) M.length (ints (tmL x M ps.length)) ∧ Below w.heap.size w w' := by
  obtain ⟨hp0, hp6⟩ := P.len
  have hlen := R.len
  have HB := Lib.hid (fun W (hW : Below w.heap.size w W) g hg => begin_one W s ps C M g ax cx x hg (hx.below hW (Nat.le_refl _)) hc hl (hs.below hW (Nat.le_refl _)) P R (L.below hW))
  have HT := Lib.hid (fun W (hW : Below w.heap.size w W) => temper_any W s ps C M ax cx x (hx.below hW (Nat.le_refl _)) hc hl (hs.below hW (Nat.le_refl _)) P R (L.below hW))
  have HS := Lib.hid (fun W (hW : Below w.heap.size w W) (z : Int) (hz : z.natAbs ≤ 1000000000) => show Gives Tryz.prog 47 #[.string (itx z)] W (.tuple #[.int .i64 z, .bool true]) from by
    have := smallz_any W z (lim_z (by have := big_lim; omega)) (L.below hW)
    rw [if_pos (by omega)] at this
    exact this)
  have hm6 : M.length ≤ 6 := by omega
  have hTl := tmL_length x M ps.length
  have hZ := Lib.hid (fun k (hk : k < (tmL x M ps.length).length) => zs_get (tmL x M ps.length) k hk)
  clear hs P R L hx hc hlen
  unfold tmV temV at *
  rw [hl] at HB HT ⊢
  clear hl hp0 hp6
  have HF : Hid (∀ k, ((tmL x M ps.length).getD k 0).natAbs ≤ 1000000000) := fun k => by
    rcases Nat.lt_or_ge k (tmL x M ps.length).length with h | h
    · exact hf _ (getD_mem h)
    · rw [List.getD_eq_getElem?_getD, List.getElem?_eq_none h]; simp
  clear hf
  generalize tmL x M ps.length = TT at *
  generalize ps.length = n at *
  generalize C.length = m1 at *
  generalize M.length = m2 at *
  generalize s.a0 = sa0 at *
  generalize s.a1 = sa1 at *
  generalize s.a2 = sa2 at *
  generalize s.c0 = sc0 at *
  generalize s.c1 = sc1 at *
  generalize s.c2 = sc2 at *
  have HTn : Hid (ints (TT.take m2) = ints TT) := by show _ = _; rw [← hTl, List.take_length]
  have HTk : Hid (∀ k, k < m2 → ints (TT.take (k + 1)) = ints (TT.take k) ++ [.int .i64 (TT.getD k 0)]) := fun k hk => by
    rw [List.take_succ_eq_append_getElem (by rw [hTl]; exact hk), ints_append, List.getD_eq_getElem?_getD, List.getElem?_eq_getElem (by rw [hTl]; exact hk)]; rfl
  rw [hTl] at hZ
  clear hTl
  have e1 : (w.alloc (.cells #[.slice sa0 n sc0, .slice sa1 m1 sc1, .slice sa2 m2 sc2] 32)).heap.size = w.heap.size + 1 := by simp
  have K0 := Lib.hid (heap_old (heap_at w #[.slice sa0 n sc0, .slice sa1 m1 sc1, .slice sa2 m2 sc2] 32 _ rfl) (.cells #[.slice ax n cx] 54))
  have K1 := Lib.hid (heap_at (w.alloc (.cells #[.slice sa0 n sc0, .slice sa1 m1 sc1, .slice sa2 m2 sc2] 32)) #[.slice ax n cx] 54 _ e1)
  have B0 := Lib.hid (((Below.refl w.heap.size w).alloc (Nat.le_refl _) (.cells #[.slice sa0 n sc0, .slice sa1 m1 sc1, .slice sa2 m2 sc2] 32)).alloc (by rw [e1]; omega) (.cells #[.slice ax n cx] 54))
  obtain ⟨j0, j1, j2⟩ := three_cells (heap_at w #[.slice sa0 n sc0, .slice sa1 m1 sc1, .slice sa2 m2 sc2] 32 _ rfl)
  clear e1
  go_enter Tryz.func23, Tryz.ntmps23
  go_wp2_with fail
  generalize (w.alloc (.cells #[.slice sa0 n sc0, .slice sa1 m1 sc1, .slice sa2 m2 sc2] 32)).alloc (.cells #[.slice ax n cx] 54) = w0 at *
  refine Calls.mono (HB.out w0 B0.out _ K1.out) ?_
  rintro e w1 ⟨rfl, hb⟩
  have K2 := Lib.hid (heap_kept K0.out hb (Nat.le_refl _))
  have B1 := Lib.hid (B0.out.trans (hb.mono B0.out.size))
  clear hb HB B0 K0 K1 j0 j1 j2
  obtain ⟨j0, j1, j2⟩ := three_cells K2.out
  go_wp2_with fail
  refine Calls.mono (HT.out w1 B1.out) ?_
  rintro e w2 ⟨a, c, rfl, hown, hb⟩
  have B2 := Lib.hid (B1.out.trans (hb.mono B1.out.size))
  have OZ := Lib.hid (own_rd hown)
  clear hb HT B1 K2 j0 j1 j2 hown
  go_wp2_with fail
  go_loopw [7, 23] (fun o i wr => ∃ (k : Nat) (b : Option Addr) (d : Nat), k ≤ m2 ∧ i = .int .i64 k ∧ o = .slice b k d ∧ Hid (wr.ownsRow w2.heap.size 3 1 (.slice b k d) k (ints (TT.take k))) ∧ Hid (Below w2.heap.size w2 wr)) (fun _ i _ => m2 - (intOf i).toNat)
  case atStart => exact ⟨0, none, 0, Nat.zero_le _, rfl, rfl, by rw [List.take_zero]; exact World.ownsRow_nil .., Below.refl _ _⟩
  case round =>
    obtain ⟨k, b, d, hk, rfl, rfl, OWN, D⟩ := hrel
    by_cases hlt : k < m2
    · have hlt' : (k : Int) < m2 := by omega
      have hltt : decide (k < m2) = true := decide_eq_true hlt
      obtain ⟨bb, off, rfl, hbl, hcell⟩ := OZ.out.open (by rw [zs_length]; have := hZ.out k hlt; exact Nat.lt_of_le_of_lt (Nat.zero_le k) (by rw [← zs_length]; exact (List.getElem?_eq_some_iff.1 this).1))
      have x0 : wr.cell? ⟨bb, off + k, none⟩ = some (.string (itx (TT.getD k 0))) := by
        rw [← hcell k _ (hZ.out k hlt)]
        exact D.out.cell (p := ⟨bb, off + k, none⟩) hbl
      have hz := HF.out k
      have HTk1 := Lib.hid (HTk.out k hlt)
      generalize TT.getD k 0 = z at *
      have HS1 := Lib.hid (HS.out wr (B2.out.trans (D.out.mono B2.out.size)) z hz)
      have z1 : ¬ (1000000000 : Int) < z := by omega
      have z2 : ¬ z < (-1000000000 : Int) := by omega
      clear hcell hbl hz
      go_wp2_with fail
      refine Calls.mono HS1.out ?_
      rintro e w3 ⟨rfl, hb⟩
      have D3 := Lib.hid (D.out.trans (hb.mono D.out.size))
      have OW := Lib.hid (own_below OWN.out hb (Nat.le_refl _))
      clear hb HS1 D OWN x0
      go_wp2_with (at_builtin; refine wpList_append_one rfl (.tmp 42) (.tmp 44) 54 rfl elRow _ (.int .i64 z) rfl rfl OW.out D3.out.size rfl (by omega) (by omega) ?_)
      intro v' w9 hown9 hg9 hat9
      have Hb9 : Hid (Below w2.heap.size w2 w9) := (D3.out.alloc D3.out.size _).grown hg9 (by simp; have := D3.out.size; omega) (fun k hk => (OW.out.lt k hk).1)
      obtain ⟨b9, d9, rfl⟩ := own_form hown9
      have Hown9 : Hid (w9.ownsRow w2.heap.size 3 1 (.slice b9 (k + 1) d9) (k + 1) (ints (TT.take (k + 1)))) := by
        show World.ownsRow ..
        rw [HTk1.out]
        exact hown9
      clear hown9 hg9 hat9 OW D3
      go_wp2_with fail
      go_roundw
      case rel => exact ⟨k + 1, b9, d9, by omega, by go_num, rfl, Hown9, Hb9⟩
      case measure => simp [intOf]; omega
    · have hlt' : ¬ (k : Int) < m2 := by omega
      have hltt : decide (k < m2) = false := decide_eq_false hlt
      obtain rfl : m2 = k := by omega
      have OW : Hid (wr.ownsRow w2.heap.size 3 1 (.slice b m2 d) m2 (ints TT)) := by rw [← HTn.out]; exact OWN.out
      clear OWN
      go_wp2_with fail
      go_ret2
      exact ⟨b, d, rfl, own_lower OW.out B2.out.size, B2.out.trans (D.out.mono B2.out.size)⟩

end Go.Proofs.YtepicfdhphiiaaaGreatDoor

/- The examples' lattices. -/
namespace Go.Proofs.YtepicfdhphiiaaaGreatDoor
open Go.RowKit

theorem vf3_hi (a b c : Int) (i : Nat) (h : 3 ≤ i) : vf [a, b, c] i = 0 := by
  unfold vf
  rw [List.getD_eq_getElem?_getD, List.getElem?_eq_none (by simpa using h)]; rfl
theorem sp_one3 (a b c : Int) (y : Vc) : Sp (vfs [[a, b, c]]) y ↔ Supp 3 y ∧ ∃ t, y 0 = t * a ∧ y 1 = t * b ∧ y 2 = t * c := by
  constructor
  · rintro ⟨t, h⟩
    have h' : (fun i => y i - t * vf [a, b, c] i) = vz := h
    refine ⟨fun i hi => ?_, t, ?_, ?_, ?_⟩
    · have := congrFun h' i
      simp only [vf3_hi a b c i hi, vz] at this
      omega
    · have := congrFun h' 0
      simp only [vz, show vf [a, b, c] 0 = a from rfl] at this
      omega
    · have := congrFun h' 1
      simp only [vz, show vf [a, b, c] 1 = b from rfl] at this
      omega
    · have := congrFun h' 2
      simp only [vz, show vf [a, b, c] 2 = c from rfl] at this
      omega
  · rintro ⟨hs, t, h0, h1, h2⟩
    refine ⟨t, ?_⟩
    show (fun i => y i - t * vf [a, b, c] i) = vz
    funext i
    rcases (show i = 0 ∨ i = 1 ∨ i = 2 ∨ 3 ≤ i by omega) with rfl | rfl | rfl | h
    · show y 0 - t * a = 0; omega
    · show y 1 - t * b = 0; omega
    · show y 2 - t * c = 0; omega
    · rw [vf3_hi a b c i h, hs i h]; simp [vz]
theorem sp_two3 (a b c d e f : Int) (y : Vc) : Sp (vfs [[a, b, c], [d, e, f]]) y ↔ Supp 3 y ∧ ∃ s t, y 0 = s * a + t * d ∧ y 1 = s * b + t * e ∧ y 2 = s * c + t * f := by
  constructor
  · rintro ⟨s, h⟩
    obtain ⟨hs, t, h0, h1, h2⟩ := (sp_one3 d e f _).1 h
    refine ⟨fun i hi => ?_, s, t, ?_, ?_, ?_⟩
    · have := hs i hi
      simp only [vf3_hi a b c i hi] at this
      omega
    · have h0 : y 0 - s * a = t * d := h0
      omega
    · have h1 : y 1 - s * b = t * e := h1
      omega
    · have h2 : y 2 - s * c = t * f := h2
      omega
  · rintro ⟨hs, s, t, h0, h1, h2⟩
    refine ⟨s, (sp_one3 d e f _).2 ⟨fun i hi => ?_, t, ?_, ?_, ?_⟩⟩
    · show y i - s * vf [a, b, c] i = 0
      rw [vf3_hi a b c i hi, hs i hi]; simp
    · show y 0 - s * a = t * d; omega
    · show y 1 - s * b = t * e; omega
    · show y 2 - s * c = t * f; omega
theorem dot3 (x y : Vc) : dotV 3 x y = x 0 * y 0 + x 1 * y 1 + x 2 * y 2 := by simp only [dotV]; omega
theorem perp_one3 (a b c : Int) (y : Vc) : Perp 3 (Sp (vfs [[a, b, c]])) y ↔ Supp 3 y ∧ a * y 0 + b * y 1 + c * y 2 = 0 := by
  constructor
  · rintro ⟨hs, h⟩
    have := h (vf [a, b, c]) (sp_mem List.mem_cons_self)
    rw [dot3] at this
    exact ⟨hs, this⟩
  · rintro ⟨hs, h⟩
    refine ⟨hs, fun x hx => ?_⟩
    obtain ⟨_, t, h0, h1, h2⟩ := (sp_one3 a b c x).1 hx
    rw [dot3, h0, h1, h2]
    have : t * a * y 0 + t * b * y 1 + t * c * y 2 = t * (a * y 0 + b * y 1 + c * y 2) := by simp only [Int.mul_add, Int.mul_assoc]
    rw [this, h]; simp
theorem perp_two3 (a b c d e f : Int) (y : Vc) : Perp 3 (Sp (vfs [[a, b, c], [d, e, f]])) y ↔ Supp 3 y ∧ a * y 0 + b * y 1 + c * y 2 = 0 ∧ d * y 0 + e * y 1 + f * y 2 = 0 := by
  constructor
  · rintro ⟨hs, h⟩
    have h1 := h (vf [a, b, c]) (sp_mem List.mem_cons_self)
    have h2 := h (vf [d, e, f]) (sp_mem (List.mem_cons_of_mem _ List.mem_cons_self))
    rw [dot3] at h1 h2
    exact ⟨hs, h1, h2⟩
  · rintro ⟨hs, h, k⟩
    refine ⟨hs, fun x hx => ?_⟩
    obtain ⟨_, s, t, h0, h1, h2⟩ := (sp_two3 a b c d e f x).1 hx
    rw [dot3, h0, h1, h2]
    have : (s * a + t * d) * y 0 + (s * b + t * e) * y 1 + (s * c + t * f) * y 2 = s * (a * y 0 + b * y 1 + c * y 2) + t * (d * y 0 + e * y 1 + f * y 2) := by
      simp only [Int.mul_add, Int.add_mul, Int.mul_assoc]; omega
    rw [this, h, k]; simp

def mtC : List (List Int) := [[4, -4, 1]]
def mtM : List (List Int) := [[1, 0, -4], [0, 1, 4]]
theorem mt_spC (y : Vc) : Sp (vfs mtC) y ↔ Supp 3 y ∧ y 0 = 4 * y 2 ∧ y 1 = -4 * y 2 := by
  unfold mtC
  rw [sp_one3]
  exact ⟨fun ⟨hs, t, h⟩ => ⟨hs, by omega, by omega⟩, fun ⟨hs, h⟩ => ⟨hs, y 2, by omega, by omega, by omega⟩⟩
theorem mt_spM (y : Vc) : Sp (vfs mtM) y ↔ Supp 3 y ∧ y 2 = -4 * y 0 + 4 * y 1 := by
  unfold mtM
  rw [sp_two3]
  exact ⟨fun ⟨hs, s, t, h⟩ => ⟨hs, by omega⟩, fun ⟨hs, h⟩ => ⟨hs, y 0, y 1, by omega, by omega, by omega⟩⟩
theorem hnf_one3 {a b c : Int} (h : 0 < a) : IsHnf [[a, b, c]] :=
  ⟨⟨0, Nat.le_refl _, fun _ hj => absurd hj (Nat.not_lt_zero _), h, trivial⟩, ⟨fun _ hs => absurd hs List.not_mem_nil, trivial⟩⟩
theorem mt_hM : IsHnf mtM := by
  refine ⟨⟨0, Nat.le_refl _, fun j hj => absurd hj (Nat.not_lt_zero _), by decide, ⟨1, by omega, fun j hj => ?_, by decide, trivial⟩⟩, ⟨fun s hs q hq => ?_, ⟨fun _ hs => absurd hs List.not_mem_nil, trivial⟩⟩⟩
  · obtain rfl : j = 0 := by omega
    rfl
  · obtain rfl : s = vf [0, 1, 4] := by
      rcases List.mem_cons.1 hs with h | h
      · exact h
      · exact absurd h List.not_mem_nil
    have : q = 1 := piv_one hq ⟨fun j hj => by
      obtain rfl : j = 0 := by omega
      rfl, by decide⟩
    subst this
    exact ⟨by decide, by decide⟩
theorem mt_perpC (y : Vc) : Sp (vfs mtM) y ↔ Perp 3 (Sp (vfs mtC)) y := by
  rw [mt_spM]
  unfold mtC
  rw [perp_one3]
  exact ⟨fun ⟨hs, h⟩ => ⟨hs, by omega⟩, fun ⟨hs, h⟩ => ⟨hs, by omega⟩⟩
theorem mt_perpM (y : Vc) : Sp (vfs mtC) y ↔ Perp 3 (Sp (vfs mtM)) y := by
  rw [mt_spC]
  unfold mtM
  rw [perp_two3]
  exact ⟨fun ⟨hs, h⟩ => ⟨hs, by omega, by omega⟩, fun ⟨hs, h⟩ => ⟨hs, by omega, by omega⟩⟩
theorem mt_fit : (∀ i, i < mtC.length → ∀ j, j < 3 → (ent mtC i j).natAbs ≤ 1000000000) ∧ ∀ i, i < mtM.length → ∀ j, j < 3 → (ent mtM i j).natAbs ≤ 1000000000 := by
  unfold mtC mtM ent; decide
theorem mt_rect : Rect 3 mtC ∧ Rect 3 mtM := by unfold Rect mtC mtM; decide
theorem mt_ok : TemOk 3 mtC mtM := ⟨hnf_one3 (by decide), mt_hM, mt_rect.1, mt_rect.2, mt_fit.1, mt_fit.2, mt_perpC, mt_perpM⟩
theorem no_unf {S : Vc → Prop} (X : List (List Int)) (h1 : IsHnf X) (h2 : Rect 3 X) (h3 : ∀ i, i < X.length → ∀ j, j < 3 → (ent X i j).natAbs ≤ 1000000000) (h : ∀ y, S y ↔ Sp (vfs X) y) : ¬ UnfS 3 S := by
  rintro ⟨Bs, b1, b2, b3, i, j, hi, hj, hn⟩
  obtain rfl := hnf_same b1 h1 b2 h2 fun y => (b3 y).trans (h y)
  exact hn (h3 i hi j hj)
/-- What stands for the examples' rows. -/
theorem mt_from {w w' : World} {ps : List Int} {R : List (List Int)} {v : Bool} {e : Ending} (h : FcE w w' ps R v e) (hp : ps.length = 3) (X : List (List Int)) (h1 : IsHnf X) (h2 : Rect 3 X) (h3 : ∀ i, i < X.length → ∀ j, j < 3 → (ent X i j).natAbs ≤ 1000000000) (hX : ∀ y, Sp (vfs R) y ↔ Sp (vfs X) y)
    (hA : ∀ y, Perp 3 (Sp (vfs R)) y ↔ Sp (vfs (if v = true then mtC else mtM)) y) :
    Below w.heap.size w w' ∧ ∃ s, e = .returned (.tuple #[tmV s 3 mtC.length mtM.length, .int .i64 0]) ∧ TemT w' s ps mtC mtM := by
  obtain ⟨hb, h⟩ := h
  rw [hp] at h
  have hPP : ∀ y, Perp 3 (Perp 3 (Sp (vfs R))) y ↔ Sp (vfs (if v = true then mtM else mtC)) y := fun y => by
    rw [perp_congr hA y]
    cases v with
    | true => exact (mt_perpC y).symm
    | false => exact (mt_perpM y).symm
  refine ⟨hb, ?_⟩
  rcases h with ⟨_, h | h | h⟩ | ⟨C, M, a0, c0, a1, c1, a2, c2, rfl, hT, hM, q1, q2⟩
  · exact absurd h (no_unf X h1 h2 h3 hX)
  · cases v with
    | true => exact absurd h (no_unf mtM mt_hM mt_rect.2 mt_fit.2 hPP)
    | false => exact absurd h (no_unf mtC (hnf_one3 (by decide)) mt_rect.1 mt_fit.1 hPP)
  · cases v with
    | true => exact absurd h (no_unf mtC (hnf_one3 (by decide)) mt_rect.1 mt_fit.1 hA)
    | false => exact absurd h (no_unf mtM mt_hM mt_rect.2 mt_fit.2 hA)
  · have hC : ∀ y, Sp (vfs C) y ↔ Sp (vfs mtC) y := fun y => by
      cases v with
      | true => exact (q2 y).trans (hA y)
      | false => exact (q1 y).trans (hPP y)
    obtain ⟨rfl, rfl⟩ := hT.same mt_ok hC
    exact ⟨⟨a0, c0, a1, c1, a2, c2⟩, rfl, hM⟩
theorem mt_r1 : (∀ y, Sp (vfs [[-4, 4, -1]]) y ↔ Sp (vfs mtC) y) ∧ ∀ y, Perp 3 (Sp (vfs [[-4, 4, -1]])) y ↔ Sp (vfs mtM) y := by
  refine ⟨fun y => ?_, fun y => ?_⟩
  · rw [sp_one3, mt_spC]
    exact ⟨fun ⟨hs, t, h⟩ => ⟨hs, by omega, by omega⟩, fun ⟨hs, h⟩ => ⟨hs, - y 2, by omega, by omega, by omega⟩⟩
  · rw [perp_one3, mt_spM]
    exact ⟨fun ⟨hs, h⟩ => ⟨hs, by omega⟩, fun ⟨hs, h⟩ => ⟨hs, by omega⟩⟩
theorem mt_r3 : (∀ y, Sp (vfs [[-8, 8, -2]]) y ↔ Sp (vfs [[8, -8, 2]]) y) ∧ ∀ y, Perp 3 (Sp (vfs [[-8, 8, -2]])) y ↔ Sp (vfs mtM) y := by
  refine ⟨fun y => ?_, fun y => ?_⟩
  · rw [sp_one3, sp_one3]
    exact ⟨fun ⟨hs, t, h⟩ => ⟨hs, -t, by omega, by omega, by omega⟩, fun ⟨hs, t, h⟩ => ⟨hs, -t, by omega, by omega, by omega⟩⟩
  · rw [perp_one3, mt_spM]
    exact ⟨fun ⟨hs, h⟩ => ⟨hs, by omega⟩, fun ⟨hs, h⟩ => ⟨hs, by omega⟩⟩
theorem mt_r2 : (∀ y, Sp (vfs [[12, 19, 28], [19, 30, 44]]) y ↔ Sp (vfs mtM) y) ∧ ∀ y, Perp 3 (Sp (vfs [[12, 19, 28], [19, 30, 44]])) y ↔ Sp (vfs mtC) y := by
  refine ⟨fun y => ?_, fun y => ?_⟩
  · rw [sp_two3, mt_spM]
    exact ⟨fun ⟨hs, s, t, h⟩ => ⟨hs, by omega⟩, fun ⟨hs, h⟩ => ⟨hs, -30 * y 0 + 19 * y 1, 19 * y 0 - 12 * y 1, by omega, by omega, by omega⟩⟩
  · rw [perp_two3, mt_spC]
    exact ⟨fun ⟨hs, h⟩ => ⟨hs, by omega, by omega⟩, fun ⟨hs, h⟩ => ⟨hs, by omega, by omega⟩⟩

end Go.Proofs.YtepicfdhphiiaaaGreatDoor

/- The examples' text; meantone. -/
namespace Go.Proofs.YtepicfdhphiiaaaGreatDoor
open Go.RowKit

theorem mt_text : (⟨(preB [2, 3, 5] mtC mtM 2).toArray⟩ : ByteArray) = ⟨#[50, 46, 51, 46, 53, 44, 32, 99, 111, 109, 109, 97, 115, 32, 91, 52, 32, 45, 52, 32, 49, 62, 44, 32, 109, 97, 112, 112, 105, 110, 103, 32, 60, 49, 32, 48, 32, 45, 52, 93, 32, 60, 48, 32, 49, 32, 52, 93]⟩ := by
  have e : preB [2, 3, 5] mtC mtM 2 = [50, 46, 51, 46, 53, 44, 32, 99, 111, 109, 109, 97, 115, 32, 91, 52, 32, 45, 52, 32, 49, 62, 44, 32, 109, 97, 112, 112, 105, 110, 103, 32, 60, 49, 32, 48, 32, 45, 52, 93, 32, 60, 48, 32, 49, 32, 52, 93] := by decide +kernel
  rw [e]

theorem rdm_one {w : World} {g c : Nat} {a : Option Addr} {r : List Int} {t : TypeId} {fr : Nat × Nat} (hg : w.heap[g]? = some (.cells #[.slice a r.length c] t fr)) (h : Rd w a (ints r)) : RdM w (some ⟨g, 0, none⟩) [r] := by
  refine ⟨fun _ => (a, c), .inr ⟨g, 0, rfl, (Array.getElem?_eq_some_iff.1 hg).1, fun j v hv => ?_⟩, fun i hi => ?_⟩
  · have hj : j = 0 := by
      have := (List.getElem?_eq_some_iff.1 hv).1
      simp at this
      omega
    subst hj
    rw [cell_of_row w g _ _ _ _ hg, ← hv]; rfl
  · have hi0 : i = 0 := by
      have hi' : i < 1 := hi
      omega
    subst hi0
    exact h
theorem rdm_two {w : World} {g c d : Nat} {a b : Option Addr} {r s : List Int} {t : TypeId} {fr : Nat × Nat} (hg : w.heap[g]? = some (.cells #[.slice a r.length c, .slice b s.length d] t fr)) (h : Rd w a (ints r)) (h2 : Rd w b (ints s)) : RdM w (some ⟨g, 0, none⟩) [r, s] := by
  refine ⟨fun i => if i = 0 then (a, c) else (b, d), .inr ⟨g, 0, rfl, (Array.getElem?_eq_some_iff.1 hg).1, fun j v hv => ?_⟩, fun i hi => ?_⟩
  · have hj : j = 0 ∨ j = 1 := by
      have := (List.getElem?_eq_some_iff.1 hv).1
      simp at this
      omega
    rcases hj with rfl | rfl
    · rw [cell_of_row w g _ _ _ _ hg, ← hv]; rfl
    · rw [cell_of_row w g _ _ _ _ hg, ← hv]; rfl
  · have hi0 : i = 0 ∨ i = 1 := by
      have hi' : i < 2 := hi
      omega
    rcases hi0 with rfl | rfl
    · exact h
    · exact h2

theorem meantone_any (w : World) :
    Calls Tryz.prog 25 #[] w fun e w' => ∃ s, e = .returned (tmV s 3 1 2) ∧ TemT w' s [2, 3, 5] mtC mtM ∧ Below w.heap.size w w' := by
  unfold tmV temV
  go_enter Tryz.func25, Tryz.ntmps25
  go_wp2_with fail
  have hh : ∀ (W : World) (g : Nat), W.heap.size = g → ∀ (cs : Array Value) (t : TypeId), (W.alloc (.cells cs t)).heap[g]? = some (.cells cs t (0, 0)) := fun W g h cs t => heap_at W cs t g h
  refine bodyPost_ret (results_cell_row rfl _ _ w.heap.size 32 _ (0, 0) _ rfl (heap_old (heap_old (heap_old (heap_old (heap_old (heap_old (heap_at w _ _ _ rfl) _) _) _) _) _) _) Tryz.underlying32 rfl (by kernel_rfl)) rfl ⟨⟨some ⟨w.heap.size + 1, 0, none⟩, 3, some ⟨w.heap.size + 1 + 1 + 1, 0, none⟩, 1, some ⟨w.heap.size + 1 + 1 + 1 + 1 + 1 + 1, 0, none⟩, 2⟩, rfl, ⟨?_, ?_, ?_, Nat.le_refl _, Nat.le_refl _⟩, ?_⟩
  · exact rd_ints (t := 3) (l := [2, 3, 5]) (heap_old (heap_old (heap_old (heap_old (heap_old (heap_at _ _ _ _ (by simp)) _) _) _) _) _)
  · exact rdm_one (r := [4, -4, 1]) (heap_old (heap_old (heap_old (heap_at _ _ _ _ (by simp)) _) _) _) (rd_ints (t := 3) (heap_old (heap_old (heap_old (heap_old (heap_at _ _ _ _ (by simp)) _) _) _) _))
  · exact rdm_two (r := [1, 0, -4]) (s := [0, 1, 4]) (heap_at _ _ _ _ (by simp)) (rd_ints (t := 3) (heap_old (heap_old (heap_at _ _ _ _ (by simp)) _) _)) (rd_ints (t := 3) (heap_old (heap_at _ _ _ _ (by simp)) _))
  · repeat (first | exact Below.refl _ _ | refine Below.alloc ?_ (by simp; try omega) _)

end Go.Proofs.YtepicfdhphiiaaaGreatDoor

/- schismalaw18.known. -/
namespace Go.Proofs.YtepicfdhphiiaaaGreatDoor
open Go.RowKit

theorem mt_ps : PsR [2, 3, 5] := plL_ps (k := 0) (by decide)
/-- What the examples' calls give. -/
def MtE (w w' : World) (e : Ending) : Prop := Below w.heap.size w w' ∧ ∃ s : TLoc, e = .returned (.tuple #[.agg #[.slice s.a0 3 s.c0, .slice s.a1 1 s.c1, .slice s.a2 2 s.c2], .int .i64 0]) ∧ TemT w' s [2, 3, 5] mtC mtM
theorem mt_c1 (w : World) (g gm : Nat) (hp : Rd w (some ⟨g, 0, none⟩) (ints [2, 3, 5])) (hr : RdM w (some ⟨gm, 0, none⟩) [[-4, 4, -1]]) (L : Laid w) :
    Calls Tryz.prog 21 #[.slice (some ⟨g, 0, none⟩) 3 3, .slice (some ⟨gm, 0, none⟩) 1 1] w fun e w' => MtE w w' e :=
  Calls.mono (fromCommas_any w _ _ 3 1 [2, 3, 5] [[-4, 4, -1]] hp mt_ps hr (by decide +kernel) L) fun e w' h => mt_from h rfl mtC (hnf_one3 (by decide)) mt_rect.1 mt_fit.1 mt_r1.1 mt_r1.2
theorem mt_c3 (w : World) (g gm : Nat) (hp : Rd w (some ⟨g, 0, none⟩) (ints [2, 3, 5])) (hr : RdM w (some ⟨gm, 0, none⟩) [[-8, 8, -2]]) (L : Laid w) :
    Calls Tryz.prog 21 #[.slice (some ⟨g, 0, none⟩) 3 3, .slice (some ⟨gm, 0, none⟩) 1 1] w fun e w' => MtE w w' e :=
  Calls.mono (fromCommas_any w _ _ 3 1 [2, 3, 5] [[-8, 8, -2]] hp mt_ps hr (by decide +kernel) L) fun e w' h => mt_from h rfl [[8, -8, 2]] (hnf_one3 (by decide)) (by unfold Rect; decide) (by unfold ent; decide) mt_r3.1 mt_r3.2
theorem mt_c2 (w : World) (g gm : Nat) (hp : Rd w (some ⟨g, 0, none⟩) (ints [2, 3, 5])) (hr : RdM w (some ⟨gm, 0, none⟩) [[12, 19, 28], [19, 30, 44]]) (L : Laid w) :
    Calls Tryz.prog 22 #[.slice (some ⟨g, 0, none⟩) 3 3, .slice (some ⟨gm, 0, none⟩) 2 2] w fun e w' => MtE w w' e :=
  Calls.mono (fromMapping_any w _ _ 3 2 [2, 3, 5] [[12, 19, 28], [19, 30, 44]] hp mt_ps hr (by decide +kernel) L) fun e w' h => mt_from h rfl mtM mt_hM mt_rect.2 mt_fit.2 mt_r2.1 mt_r2.2
theorem mt_same (w : World) (s t : TLoc) (hs : TemT w s [2, 3, 5] mtC mtM) (ht : TemT w t [2, 3, 5] mtC mtM) :
    Gives Tryz.prog 19 #[.agg #[.slice s.a0 3 s.c0, .slice s.a1 1 s.c1, .slice s.a2 2 s.c2], .agg #[.slice t.a0 3 t.c0, .slice t.a1 1 t.c1, .slice t.a2 2 t.c2]] w (.bool true) := by
  have := same18_any w s t [2, 3, 5] [2, 3, 5] mtC mtM mtC mtM hs ht (TemOk.few (ps := [2, 3, 5]) mt_ok mt_ps)
  have e : samB [2, 3, 5] [2, 3, 5] mtC mtM mtC mtM = true := by decide
  rw [e] at this
  exact this
theorem mt_temper (w : World) (s : TLoc) (g : Nat) (hs : TemT w s [2, 3, 5] mtC mtM) (hx : Rd w (some ⟨g, 0, none⟩) (ints [-2, 0, 1])) (L : Laid w) :
    Calls Tryz.prog 23 #[.agg #[.slice s.a0 3 s.c0, .slice s.a1 1 s.c1, .slice s.a2 2 s.c2], .slice (some ⟨g, 0, none⟩) 3 3] w fun e w' => ∃ a c, e = .returned (.tuple #[.slice a 2 c, .int .i64 0]) ∧ w'.ownsRow w.heap.size 3 1 (.slice a 2 c) 2 (ints [-6, 4]) ∧ Below w.heap.size w w' :=
  Temper_any w s [2, 3, 5] mtC mtM _ 3 [-2, 0, 1] hx (by decide) rfl hs mt_ps mt_ok L (by decide)
theorem mt_txt (w : World) (s : TLoc) (hs : TemT w s [2, 3, 5] mtC mtM) (L : Laid w) :
    Gives Tryz.prog 24 #[.agg #[.slice s.a0 3 s.c0, .slice s.a1 1 s.c1, .slice s.a2 2 s.c2]] w (.tuple #[.string ⟨#[50, 46, 51, 46, 53, 44, 32, 99, 111, 109, 109, 97, 115, 32, 91, 52, 32, 45, 52, 32, 49, 62, 44, 32, 109, 97, 112, 112, 105, 110, 103, 32, 60, 49, 32, 48, 32, 45, 52, 93, 32, 60, 48, 32, 49, 32, 52, 93]⟩, .int .i64 0]) := by
  have := text18_any w s [2, 3, 5] mtC mtM hs mt_ps mt_ok L
  rw [mt_text] at this
  exact this

theorem known18_any (w : World) (L : Laid w) : Calls Tryz.prog 12 #[] w fun e w' => e = .returned (.bool true) ∧ Below w.heap.size w w' := by
  have HL := Lib.hid (fun W (hW : Below w.heap.size w W) => L.below hW)
  clear L
  obtain ⟨g, hg⟩ : ∃ g, w.heap.size = g := ⟨_, rfl⟩
  obtain ⟨w0, hw0⟩ : ∃ w0, w.alloc (.cells #[.int .i64 2, .int .i64 3, .int .i64 5] 3) = w0 := ⟨_, rfl⟩
  have B0 : Hid (Below w.heap.size w w0) := by rw [← hw0]; exact (Below.refl _ w).alloc (Nat.le_refl _) _
  have R0 : Hid (Rd w0 (some ⟨g, 0, none⟩) (ints [2, 3, 5])) := by rw [← hw0, ← hg]; exact rd_ints (t := 3) (heap_at w _ _ _ rfl)
  have P0 : Hid (w0.alloc (.cells #[.int .i64 (-4), .int .i64 4, .int .i64 (-1)] 3) = w0.alloc (.cells #[.int .i64 (-4), .int .i64 4, .int .i64 (-1)] 3)) := rfl
  clear P0
  go_enter Tryz.func12, Tryz.ntmps12
  obtain ⟨v1, hv1⟩ : ∃ v1, ((w0.alloc (.cells #[.int .i64 (-4), .int .i64 4, .int .i64 (-1)] 3)).alloc (.cells #[.slice (some ⟨w0.heap.size, 0, none⟩) 3 3] 54)) = v1 := ⟨_, rfl⟩
  have hb : Below w0.heap.size w0 v1 := by rw [← hv1]; exact ((Below.refl _ w0).alloc (Nat.le_refl _) _).alloc (by simp; try omega) _
  have M1 : Hid (RdM v1 (some ⟨w0.heap.size + 1, 0, none⟩) [[-4, 4, -1]]) := by rw [← hv1]; exact rdm_one (r := [-4, 4, -1]) (heap_at _ _ _ _ (by simp)) (rd_ints (t := 3) (heap_old (heap_at _ _ _ _ (by first | rfl | simp)) _))
  have B1 := Lib.hid (B0.out.trans (hb.mono B0.out.size))
  have R1 := Lib.hid (R0.out.below hb (Nat.le_refl _))
  clear hb B0 R0
  go_wp2_with fail
  first | rw [hg, hw0, hv1] | rw [hw0, hv1] | rw [hv1] | skip
  refine Calls.mono (mt_c1 v1 g _ R1.out M1.out (HL.out _ B1.out)) ?_
  rintro e u1 ⟨hb, s1, rfl, t1⟩
  obtain ⟨x1, hx1⟩ : ∃ x1, u1.alloc (.cells #[.slice none 0 0, .slice none 0 0, .slice none 0 0] 32) = x1 := ⟨_, rfl⟩
  obtain ⟨g1, hg1⟩ : ∃ g1, u1.heap.size = g1 := ⟨_, rfl⟩
  have hba : Below u1.heap.size u1 x1 := by rw [← hx1]; exact (Below.refl _ u1).alloc (Nat.le_refl _) _
  have G1 : Hid (x1.heap[g1]? = some (.cells #[.slice none 0 0, .slice none 0 0, .slice none 0 0] 32 (0, 0))) := by rw [← hx1, ← hg1]; exact heap_at u1 _ _ _ rfl
  have hbc : Below v1.heap.size v1 (x1.setRow g1 #[.slice s1.a0 3 s1.c0, .slice s1.a1 1 s1.c1, .slice s1.a2 2 s1.c2]) := below_setRow (hb.trans (hba.mono hb.size)) (by rw [← hg1]; exact hb.size) _
  have hbd : Below u1.heap.size u1 (x1.setRow g1 #[.slice s1.a0 3 s1.c0, .slice s1.a1 1 s1.c1, .slice s1.a2 2 s1.c2]) := below_setRow hba (by rw [← hg1]; exact Nat.le_refl _) _
  have K1 : Hid ((x1.setRow g1 #[.slice s1.a0 3 s1.c0, .slice s1.a1 1 s1.c1, .slice s1.a2 2 s1.c2]).heap[g1]? = some (.cells #[.slice s1.a0 3 s1.c0, .slice s1.a1 1 s1.c1, .slice s1.a2 2 s1.c2] 32 (0, 0))) := setRow_heap _ _ _ _ _ _ G1.out
  have T1 := Lib.hid (t1.below hbd (Nat.le_refl _))
  have BB1 := Lib.hid (B1.out.trans (hbc.mono B1.out.size))
  have RR1 := Lib.hid (R1.out.below hbc (Nat.le_refl _))
  have HX1 := Lib.hid hx1
  clear hb hba hbc hbd t1 M1 B1 R1 hx1
  obtain ⟨v2, hv2⟩ : ∃ v2, ((((x1.setRow g1 #[.slice s1.a0 3 s1.c0, .slice s1.a1 1 s1.c1, .slice s1.a2 2 s1.c2]).alloc (.cells #[.int .i64 12, .int .i64 19, .int .i64 28] 3)).alloc (.cells #[.int .i64 19, .int .i64 30, .int .i64 44] 3)).alloc (.cells #[.slice (some ⟨x1.heap.size, 0, none⟩) 3 3, .slice (some ⟨x1.heap.size + 1, 0, none⟩) 3 3] 54)) = v2 := ⟨_, rfl⟩
  have hb : Below (x1.setRow g1 #[.slice s1.a0 3 s1.c0, .slice s1.a1 1 s1.c1, .slice s1.a2 2 s1.c2]).heap.size (x1.setRow g1 #[.slice s1.a0 3 s1.c0, .slice s1.a1 1 s1.c1, .slice s1.a2 2 s1.c2]) v2 := by rw [← hv2]; exact (((Below.refl _ (x1.setRow g1 #[.slice s1.a0 3 s1.c0, .slice s1.a1 1 s1.c1, .slice s1.a2 2 s1.c2])).alloc (Nat.le_refl _) _).alloc (by simp; try omega) _).alloc (by simp; try omega) _
  have M2 : Hid (RdM v2 (some ⟨x1.heap.size + 1 + 1, 0, none⟩) [[12, 19, 28], [19, 30, 44]]) := by rw [← hv2]; exact rdm_two (r := [12, 19, 28]) (s := [19, 30, 44]) (heap_at _ _ _ _ (by simp)) (rd_ints (t := 3) (heap_old (heap_old (heap_at _ _ _ _ (by first | rfl | simp)) _) _)) (rd_ints (t := 3) (heap_old (heap_at _ _ _ _ (by simp)) _))
  have B2 := Lib.hid (BB1.out.trans (hb.mono BB1.out.size))
  have R2 := Lib.hid (RR1.out.below hb (Nat.le_refl _))
  have KA12 := Lib.hid (heap_kept K1.out hb (Nat.le_refl _))
  have TA12 := Lib.hid (T1.out.below hb (Nat.le_refl _))
  clear hb BB1 RR1 K1 T1
  go_wp2_with (first | (rw [HX1.out, hg1]; refine wpList_store_row rfl 32 (.tmp 2) (.tmp 18) rfl g1 _ rfl rfl 32 _ G1.out (by kernel_rfl) rfl (by simp [Value.oneCell']) ?_) | (rw [HX1.out]; refine wpList_store_row rfl 32 (.tmp 2) (.tmp 18) rfl g1 _ rfl rfl 32 _ G1.out (by kernel_rfl) rfl (by simp [Value.oneCell']) ?_) | (refine wpList_store_row rfl 32 (.tmp 2) (.tmp 18) rfl g1 _ rfl rfl 32 _ G1.out (by kernel_rfl) rfl (by simp [Value.oneCell']) ?_))
  first | rw [hv2] | skip
  refine Calls.mono (mt_c2 v2 g _ R2.out M2.out (HL.out _ B2.out)) ?_
  rintro e u2 ⟨hb, s2, rfl, t2⟩
  obtain ⟨x2, hx2⟩ : ∃ x2, u2.alloc (.cells #[.slice none 0 0, .slice none 0 0, .slice none 0 0] 32) = x2 := ⟨_, rfl⟩
  obtain ⟨g2, hg2⟩ : ∃ g2, u2.heap.size = g2 := ⟨_, rfl⟩
  have hba : Below u2.heap.size u2 x2 := by rw [← hx2]; exact (Below.refl _ u2).alloc (Nat.le_refl _) _
  have G2 : Hid (x2.heap[g2]? = some (.cells #[.slice none 0 0, .slice none 0 0, .slice none 0 0] 32 (0, 0))) := by rw [← hx2, ← hg2]; exact heap_at u2 _ _ _ rfl
  have hbc : Below v2.heap.size v2 (x2.setRow g2 #[.slice s2.a0 3 s2.c0, .slice s2.a1 1 s2.c1, .slice s2.a2 2 s2.c2]) := below_setRow (hb.trans (hba.mono hb.size)) (by rw [← hg2]; exact hb.size) _
  have hbd : Below u2.heap.size u2 (x2.setRow g2 #[.slice s2.a0 3 s2.c0, .slice s2.a1 1 s2.c1, .slice s2.a2 2 s2.c2]) := below_setRow hba (by rw [← hg2]; exact Nat.le_refl _) _
  have K2 : Hid ((x2.setRow g2 #[.slice s2.a0 3 s2.c0, .slice s2.a1 1 s2.c1, .slice s2.a2 2 s2.c2]).heap[g2]? = some (.cells #[.slice s2.a0 3 s2.c0, .slice s2.a1 1 s2.c1, .slice s2.a2 2 s2.c2] 32 (0, 0))) := setRow_heap _ _ _ _ _ _ G2.out
  have T2 := Lib.hid (t2.below hbd (Nat.le_refl _))
  have BB2 := Lib.hid (B2.out.trans (hbc.mono B2.out.size))
  have RR2 := Lib.hid (R2.out.below hbc (Nat.le_refl _))
  have K1 := Lib.hid (heap_kept KA12.out hbc (Nat.le_refl _))
  have T1 := Lib.hid (TA12.out.below hbc (Nat.le_refl _))
  have HX2 := Lib.hid hx2
  clear hb hba hbc hbd t2 M2 B2 R2 hx2 KA12 TA12
  obtain ⟨v3, hv3⟩ : ∃ v3, (((x2.setRow g2 #[.slice s2.a0 3 s2.c0, .slice s2.a1 1 s2.c1, .slice s2.a2 2 s2.c2]).alloc (.cells #[.int .i64 (-8), .int .i64 8, .int .i64 (-2)] 3)).alloc (.cells #[.slice (some ⟨x2.heap.size, 0, none⟩) 3 3] 54)) = v3 := ⟨_, rfl⟩
  have hb : Below (x2.setRow g2 #[.slice s2.a0 3 s2.c0, .slice s2.a1 1 s2.c1, .slice s2.a2 2 s2.c2]).heap.size (x2.setRow g2 #[.slice s2.a0 3 s2.c0, .slice s2.a1 1 s2.c1, .slice s2.a2 2 s2.c2]) v3 := by rw [← hv3]; exact ((Below.refl _ (x2.setRow g2 #[.slice s2.a0 3 s2.c0, .slice s2.a1 1 s2.c1, .slice s2.a2 2 s2.c2])).alloc (Nat.le_refl _) _).alloc (by simp; try omega) _
  have M3 : Hid (RdM v3 (some ⟨x2.heap.size + 1, 0, none⟩) [[-8, 8, -2]]) := by rw [← hv3]; exact rdm_one (r := [-8, 8, -2]) (heap_at _ _ _ _ (by simp)) (rd_ints (t := 3) (heap_old (heap_at _ _ _ _ (by first | rfl | simp)) _))
  have B3 := Lib.hid (BB2.out.trans (hb.mono BB2.out.size))
  have R3 := Lib.hid (RR2.out.below hb (Nat.le_refl _))
  have KA13 := Lib.hid (heap_kept K1.out hb (Nat.le_refl _))
  have TA13 := Lib.hid (T1.out.below hb (Nat.le_refl _))
  have KA23 := Lib.hid (heap_kept K2.out hb (Nat.le_refl _))
  have TA23 := Lib.hid (T2.out.below hb (Nat.le_refl _))
  clear hb BB2 RR2 K1 T1 K2 T2
  go_wp2_with (first | (rw [HX2.out, hg2]; refine wpList_store_row rfl 32 (.tmp 4) (.tmp 26) rfl g2 _ rfl rfl 32 _ G2.out (by kernel_rfl) rfl (by simp [Value.oneCell']) ?_) | (rw [HX2.out]; refine wpList_store_row rfl 32 (.tmp 4) (.tmp 26) rfl g2 _ rfl rfl 32 _ G2.out (by kernel_rfl) rfl (by simp [Value.oneCell']) ?_) | (refine wpList_store_row rfl 32 (.tmp 4) (.tmp 26) rfl g2 _ rfl rfl 32 _ G2.out (by kernel_rfl) rfl (by simp [Value.oneCell']) ?_))
  first | rw [hv3] | skip
  refine Calls.mono (mt_c3 v3 g _ R3.out M3.out (HL.out _ B3.out)) ?_
  rintro e u3 ⟨hb, s3, rfl, t3⟩
  obtain ⟨x3, hx3⟩ : ∃ x3, u3.alloc (.cells #[.slice none 0 0, .slice none 0 0, .slice none 0 0] 32) = x3 := ⟨_, rfl⟩
  obtain ⟨g3, hg3⟩ : ∃ g3, u3.heap.size = g3 := ⟨_, rfl⟩
  have hba : Below u3.heap.size u3 x3 := by rw [← hx3]; exact (Below.refl _ u3).alloc (Nat.le_refl _) _
  have G3 : Hid (x3.heap[g3]? = some (.cells #[.slice none 0 0, .slice none 0 0, .slice none 0 0] 32 (0, 0))) := by rw [← hx3, ← hg3]; exact heap_at u3 _ _ _ rfl
  have hbc : Below v3.heap.size v3 (x3.setRow g3 #[.slice s3.a0 3 s3.c0, .slice s3.a1 1 s3.c1, .slice s3.a2 2 s3.c2]) := below_setRow (hb.trans (hba.mono hb.size)) (by rw [← hg3]; exact hb.size) _
  have hbd : Below u3.heap.size u3 (x3.setRow g3 #[.slice s3.a0 3 s3.c0, .slice s3.a1 1 s3.c1, .slice s3.a2 2 s3.c2]) := below_setRow hba (by rw [← hg3]; exact Nat.le_refl _) _
  have K3 : Hid ((x3.setRow g3 #[.slice s3.a0 3 s3.c0, .slice s3.a1 1 s3.c1, .slice s3.a2 2 s3.c2]).heap[g3]? = some (.cells #[.slice s3.a0 3 s3.c0, .slice s3.a1 1 s3.c1, .slice s3.a2 2 s3.c2] 32 (0, 0))) := setRow_heap _ _ _ _ _ _ G3.out
  have T3 := Lib.hid (t3.below hbd (Nat.le_refl _))
  have BB3 := Lib.hid (B3.out.trans (hbc.mono B3.out.size))
  have RR3 := Lib.hid (R3.out.below hbc (Nat.le_refl _))
  have K1 := Lib.hid (heap_kept KA13.out hbc (Nat.le_refl _))
  have T1 := Lib.hid (TA13.out.below hbc (Nat.le_refl _))
  have K2 := Lib.hid (heap_kept KA23.out hbc (Nat.le_refl _))
  have T2 := Lib.hid (TA23.out.below hbc (Nat.le_refl _))
  have HX3 := Lib.hid hx3
  clear hb hba hbc hbd t3 M3 B3 R3 hx3 KA13 TA13 KA23 TA23
  obtain ⟨v4, hv4⟩ : ∃ v4, (x3.setRow g3 #[.slice s3.a0 3 s3.c0, .slice s3.a1 1 s3.c1, .slice s3.a2 2 s3.c2]).alloc (.cells #[.int .i64 (-2), .int .i64 0, .int .i64 1] 3) = v4 := ⟨_, rfl⟩
  have hb : Below (x3.setRow g3 #[.slice s3.a0 3 s3.c0, .slice s3.a1 1 s3.c1, .slice s3.a2 2 s3.c2]).heap.size (x3.setRow g3 #[.slice s3.a0 3 s3.c0, .slice s3.a1 1 s3.c1, .slice s3.a2 2 s3.c2]) v4 := by rw [← hv4]; exact (Below.refl _ _).alloc (Nat.le_refl _) _
  have X4 : Hid (Rd v4 (some ⟨x3.heap.size, 0, none⟩) (ints [-2, 0, 1])) := by rw [← hv4]; exact rd_ints (t := 3) (heap_at _ _ _ _ (by simp))
  have B4 := Lib.hid (BB3.out.trans (hb.mono BB3.out.size))
  have KA1 := Lib.hid (heap_kept K1.out hb (Nat.le_refl _))
  have TA1 := Lib.hid (T1.out.below hb (Nat.le_refl _))
  have KA2 := Lib.hid (heap_kept K2.out hb (Nat.le_refl _))
  have TA2 := Lib.hid (T2.out.below hb (Nat.le_refl _))
  have KA3 := Lib.hid (heap_kept K3.out hb (Nat.le_refl _))
  have TA3 := Lib.hid (T3.out.below hb (Nat.le_refl _))
  obtain ⟨j0, j1, j2⟩ := three_cells K1.out
  clear hb BB3 RR3 T1 T2 T3 K2 K3
  go_wp2_with (first | (rw [HX3.out, hg3]; refine wpList_store_row rfl 32 (.tmp 6) (.tmp 33) rfl g3 _ rfl rfl 32 _ G3.out (by kernel_rfl) rfl (by simp [Value.oneCell']) ?_) | (rw [HX3.out]; refine wpList_store_row rfl 32 (.tmp 6) (.tmp 33) rfl g3 _ rfl rfl 32 _ G3.out (by kernel_rfl) rfl (by simp [Value.oneCell']) ?_) | (refine wpList_store_row rfl 32 (.tmp 6) (.tmp 33) rfl g3 _ rfl rfl 32 _ G3.out (by kernel_rfl) rfl (by simp [Value.oneCell']) ?_))
  first | rw [hv4] | skip
  clear j0 j1 j2 K1 G3 HX3
  refine Calls.mono (mt_temper v4 s1 _ TA1.out X4.out (HL.out _ B4.out)) ?_
  rintro e v5 ⟨ax, cx, rfl, hown, hb⟩
  have X5 := Lib.hid (own_rd hown)
  have B5 := Lib.hid (B4.out.trans (hb.mono B4.out.size))
  have KB1 := Lib.hid (heap_kept KA1.out hb (Nat.le_refl _))
  have TB1 := Lib.hid (TA1.out.below hb (Nat.le_refl _))
  have KB2 := Lib.hid (heap_kept KA2.out hb (Nat.le_refl _))
  have TB2 := Lib.hid (TA2.out.below hb (Nat.le_refl _))
  have KB3 := Lib.hid (heap_kept KA3.out hb (Nat.le_refl _))
  have TB3 := Lib.hid (TA3.out.below hb (Nat.le_refl _))
  clear hb hown B4 X4 KA1 KA2 KA3 TA1 TA2 TA3 hv4
  obtain ⟨j0, j1, j2⟩ := three_cells KB1.out
  go_wp2_with fail
  clear j0 j1 j2
  refine Calls.mono (mt_txt v5 s1 TB1.out (HL.out _ B5.out)) ?_
  rintro e v6 ⟨rfl, hb⟩
  obtain ⟨vd, hvd⟩ : ∃ vd : World, { heap := v6.heap, tape := v6.tape, drawn := v6.drawn + 1, os := v6.os, output := v6.output } = vd := ⟨_, rfl⟩
  have hd : Below v6.heap.size v6 vd := by rw [← hvd]; exact ⟨rfl, rfl, rfl, Nat.le_refl _, fun _ _ => rfl⟩
  have hb2 := hb.trans (hd.mono hb.size)
  have B7 := Lib.hid (B5.out.trans (hb2.mono B5.out.size))
  have X7 := Lib.hid (X5.out.below hb2 (Nat.le_refl _))
  have K1 := Lib.hid (heap_kept KB1.out hb2 (Nat.le_refl _))
  have T1 := Lib.hid (TB1.out.below hb2 (Nat.le_refl _))
  have K2 := Lib.hid (heap_kept KB2.out hb2 (Nat.le_refl _))
  have T2 := Lib.hid (TB2.out.below hb2 (Nat.le_refl _))
  have K3 := Lib.hid (heap_kept KB3.out hb2 (Nat.le_refl _))
  have T3 := Lib.hid (TB3.out.below hb2 (Nat.le_refl _))
  have HW := Lib.hid hvd
  clear hb hd hb2 B5 X5 KB1 KB2 KB3 TB1 TB2 TB3 hvd
  go_wp2_with fail
  have n6 : Nonempty (NinW g1 g2 g3 (.slice s1.a0 3 s1.c0) (.slice s1.a1 1 s1.c1) (.slice s1.a2 2 s1.c2) (.slice s2.a0 3 s2.c0) (.slice s2.a1 1 s2.c1) (.slice s2.a2 2 s2.c2) (.slice s3.a0 3 s3.c0) (.slice s3.a1 1 s3.c1) (.slice s3.a2 2 s3.c2)) := ⟨⟨_, (three_cells K1.out).1, (three_cells K1.out).2.1, (three_cells K1.out).2.2, (three_cells K2.out).1, (three_cells K2.out).2.1, (three_cells K2.out).2.2, (three_cells K3.out).1, (three_cells K3.out).2.1, (three_cells K3.out).2.2⟩⟩
  have q0 : ∀ p : NinW g1 g2 g3 (.slice s1.a0 3 s1.c0) (.slice s1.a1 1 s1.c1) (.slice s1.a2 2 s1.c2) (.slice s2.a0 3 s2.c0) (.slice s2.a1 1 s2.c1) (.slice s2.a2 2 s2.c2) (.slice s3.a0 3 s3.c0) (.slice s3.a1 1 s3.c1) (.slice s3.a2 2 s3.c2), p.w.cell? ⟨g1, 0, none⟩ = some (.slice s1.a0 3 s1.c0) := fun p => p.a0
  have q1 : ∀ p : NinW g1 g2 g3 (.slice s1.a0 3 s1.c0) (.slice s1.a1 1 s1.c1) (.slice s1.a2 2 s1.c2) (.slice s2.a0 3 s2.c0) (.slice s2.a1 1 s2.c1) (.slice s2.a2 2 s2.c2) (.slice s3.a0 3 s3.c0) (.slice s3.a1 1 s3.c1) (.slice s3.a2 2 s3.c2), p.w.cell? ⟨g1, 1, none⟩ = some (.slice s1.a1 1 s1.c1) := fun p => p.a1
  have q2 : ∀ p : NinW g1 g2 g3 (.slice s1.a0 3 s1.c0) (.slice s1.a1 1 s1.c1) (.slice s1.a2 2 s1.c2) (.slice s2.a0 3 s2.c0) (.slice s2.a1 1 s2.c1) (.slice s2.a2 2 s2.c2) (.slice s3.a0 3 s3.c0) (.slice s3.a1 1 s3.c1) (.slice s3.a2 2 s3.c2), p.w.cell? ⟨g1, 2, none⟩ = some (.slice s1.a2 2 s1.c2) := fun p => p.a2
  have q3 : ∀ p : NinW g1 g2 g3 (.slice s1.a0 3 s1.c0) (.slice s1.a1 1 s1.c1) (.slice s1.a2 2 s1.c2) (.slice s2.a0 3 s2.c0) (.slice s2.a1 1 s2.c1) (.slice s2.a2 2 s2.c2) (.slice s3.a0 3 s3.c0) (.slice s3.a1 1 s3.c1) (.slice s3.a2 2 s3.c2), p.w.cell? ⟨g2, 0, none⟩ = some (.slice s2.a0 3 s2.c0) := fun p => p.b0
  have q4 : ∀ p : NinW g1 g2 g3 (.slice s1.a0 3 s1.c0) (.slice s1.a1 1 s1.c1) (.slice s1.a2 2 s1.c2) (.slice s2.a0 3 s2.c0) (.slice s2.a1 1 s2.c1) (.slice s2.a2 2 s2.c2) (.slice s3.a0 3 s3.c0) (.slice s3.a1 1 s3.c1) (.slice s3.a2 2 s3.c2), p.w.cell? ⟨g2, 1, none⟩ = some (.slice s2.a1 1 s2.c1) := fun p => p.b1
  have q5 : ∀ p : NinW g1 g2 g3 (.slice s1.a0 3 s1.c0) (.slice s1.a1 1 s1.c1) (.slice s1.a2 2 s1.c2) (.slice s2.a0 3 s2.c0) (.slice s2.a1 1 s2.c1) (.slice s2.a2 2 s2.c2) (.slice s3.a0 3 s3.c0) (.slice s3.a1 1 s3.c1) (.slice s3.a2 2 s3.c2), p.w.cell? ⟨g2, 2, none⟩ = some (.slice s2.a2 2 s2.c2) := fun p => p.b2
  have q6 : ∀ p : NinW g1 g2 g3 (.slice s1.a0 3 s1.c0) (.slice s1.a1 1 s1.c1) (.slice s1.a2 2 s1.c2) (.slice s2.a0 3 s2.c0) (.slice s2.a1 1 s2.c1) (.slice s2.a2 2 s2.c2) (.slice s3.a0 3 s3.c0) (.slice s3.a1 1 s3.c1) (.slice s3.a2 2 s3.c2), p.w.cell? ⟨g3, 0, none⟩ = some (.slice s3.a0 3 s3.c0) := fun p => p.c0
  have q7 : ∀ p : NinW g1 g2 g3 (.slice s1.a0 3 s1.c0) (.slice s1.a1 1 s1.c1) (.slice s1.a2 2 s1.c2) (.slice s2.a0 3 s2.c0) (.slice s2.a1 1 s2.c1) (.slice s2.a2 2 s2.c2) (.slice s3.a0 3 s3.c0) (.slice s3.a1 1 s3.c1) (.slice s3.a2 2 s3.c2), p.w.cell? ⟨g3, 1, none⟩ = some (.slice s3.a1 1 s3.c1) := fun p => p.c1
  have q8 : ∀ p : NinW g1 g2 g3 (.slice s1.a0 3 s1.c0) (.slice s1.a1 1 s1.c1) (.slice s1.a2 2 s1.c2) (.slice s2.a0 3 s2.c0) (.slice s2.a1 1 s2.c1) (.slice s2.a2 2 s2.c2) (.slice s3.a0 3 s3.c0) (.slice s3.a1 1 s3.c1) (.slice s3.a2 2 s3.c2), p.w.cell? ⟨g3, 2, none⟩ = some (.slice s3.a2 2 s3.c2) := fun p => p.c2
  refine RW.wp_region_readers 23 [(0,0),(0,1),(0,2),(1,3),(0,4),(0,5),(0,6),(0,7),(0,8),(0,9),(0,10),(0,11),(1,12),(1,13),(0,14),(0,15),(0,16),(0,17),(0,18),(0,19),(0,20),(1,21),(1,22),(0,23),(0,24),(0,25),(0,26),(0,27),(0,28),(0,29),(2,30),(0,31),(0,32),(0,33),(0,34),(0,35),(0,36),(0,37),(0,38),(0,39),(0,40),(0,41),(0,42)] (fun w' => ∃ p : NinW g1 g2 g3 (.slice s1.a0 3 s1.c0) (.slice s1.a1 1 s1.c1) (.slice s1.a2 2 s1.c2) (.slice s2.a0 3 s2.c0) (.slice s2.a1 1 s2.c1) (.slice s2.a2 2 s2.c2) (.slice s3.a0 3 s3.c0) (.slice s3.a1 1 s3.c1) (.slice s3.a2 2 s3.c2), w' = p.w) (by kernel_rfl) (by kernel_rfl) ⟨⟨_, (three_cells K1.out).1, (three_cells K1.out).2.1, (three_cells K1.out).2.2, (three_cells K2.out).1, (three_cells K2.out).2.1, (three_cells K2.out).2.2, (three_cells K3.out).1, (three_cells K3.out).2.1, (three_cells K3.out).2.2⟩, HW.out⟩ ?_
  rw [HW.out]
  clear HW
  refine RW.walkR_move ?_
  simp only [List.drop_zero, List.take_succ_cons, List.take_zero]
  go_wp2_with fail
  refine ⟨⟨⟨_, (three_cells K1.out).1, (three_cells K1.out).2.1, (three_cells K1.out).2.2, (three_cells K2.out).1, (three_cells K2.out).2.1, (three_cells K2.out).2.2, (three_cells K3.out).1, (three_cells K3.out).2.1, (three_cells K3.out).2.2⟩, rfl⟩, ?_⟩
  refine RW.walkR_move ?_
  simp only [List.drop_succ_cons, List.drop_zero, List.take_succ_cons, List.take_zero]
  go_wp2_with fail
  refine ⟨⟨⟨_, (three_cells K1.out).1, (three_cells K1.out).2.1, (three_cells K1.out).2.2, (three_cells K2.out).1, (three_cells K2.out).2.1, (three_cells K2.out).2.2, (three_cells K3.out).1, (three_cells K3.out).2.1, (three_cells K3.out).2.2⟩, rfl⟩, ?_⟩
  refine RW.walkR_move ?_
  simp only [List.drop_succ_cons, List.drop_zero, List.take_succ_cons, List.take_zero]
  go_wp2_with fail
  refine ⟨⟨⟨_, (three_cells K1.out).1, (three_cells K1.out).2.1, (three_cells K1.out).2.2, (three_cells K2.out).1, (three_cells K2.out).2.1, (three_cells K2.out).2.2, (three_cells K3.out).1, (three_cells K3.out).2.1, (three_cells K3.out).2.2⟩, rfl⟩, ?_⟩
  refine RW.walkR_read ?_
  simp only [List.drop_succ_cons, List.drop_zero, List.take_succ_cons, List.take_zero]
  go_big_quiet_step (fail)
  refine wpQuiet_nil ?_
  refine RW.walkR_move ?_
  simp only [List.drop_succ_cons, List.drop_zero, List.take_succ_cons, List.take_zero]
  go_wp2_with fail
  refine Calls.mono (meantone_any vd) ?_
  rintro e y1 ⟨s0, rfl, t0, hb⟩
  have T0 := Lib.hid t0
  clear t0
  have B8 := Lib.hid (B7.out.trans (hb.mono B7.out.size))
  have X8 := Lib.hid (X7.out.below hb (Nat.le_refl _))
  have K1n := Lib.hid (heap_kept K1.out hb (Nat.le_refl _))
  have T1n := Lib.hid (T1.out.below hb (Nat.le_refl _))
  clear K1 T1
  have K1 := K1n
  have T1 := T1n
  clear K1n T1n
  have K2n := Lib.hid (heap_kept K2.out hb (Nat.le_refl _))
  have T2n := Lib.hid (T2.out.below hb (Nat.le_refl _))
  clear K2 T2
  have K2 := K2n
  have T2 := T2n
  clear K2n T2n
  have K3n := Lib.hid (heap_kept K3.out hb (Nat.le_refl _))
  have T3n := Lib.hid (T3.out.below hb (Nat.le_refl _))
  clear K3 T3
  have K3 := K3n
  have T3 := T3n
  clear K3n T3n
  clear hb B7 X7
  go_wp2_with fail
  refine ⟨⟨⟨_, (three_cells K1.out).1, (three_cells K1.out).2.1, (three_cells K1.out).2.2, (three_cells K2.out).1, (three_cells K2.out).2.1, (three_cells K2.out).2.2, (three_cells K3.out).1, (three_cells K3.out).2.1, (three_cells K3.out).2.2⟩, rfl⟩, ?_⟩
  refine RW.walkR_move ?_
  simp only [List.drop_succ_cons, List.drop_zero, List.take_succ_cons, List.take_zero]
  go_wp2_with fail
  refine Calls.mono (mt_same y1 s1 s0 T1.out T0.out) ?_
  rintro e y2 ⟨rfl, hb⟩
  have B9 := Lib.hid (B8.out.trans (hb.mono B8.out.size))
  have X9 := Lib.hid (X8.out.below hb (Nat.le_refl _))
  have K1n := Lib.hid (heap_kept K1.out hb (Nat.le_refl _))
  have T1n := Lib.hid (T1.out.below hb (Nat.le_refl _))
  clear K1 T1
  have K1 := K1n
  have T1 := T1n
  clear K1n T1n
  have K2n := Lib.hid (heap_kept K2.out hb (Nat.le_refl _))
  have T2n := Lib.hid (T2.out.below hb (Nat.le_refl _))
  clear K2 T2
  have K2 := K2n
  have T2 := T2n
  clear K2n T2n
  have K3n := Lib.hid (heap_kept K3.out hb (Nat.le_refl _))
  have T3n := Lib.hid (T3.out.below hb (Nat.le_refl _))
  clear K3 T3
  have K3 := K3n
  have T3 := T3n
  clear K3n T3n
  clear hb B8 X8
  go_wp2_with fail
  refine ⟨⟨⟨_, (three_cells K1.out).1, (three_cells K1.out).2.1, (three_cells K1.out).2.2, (three_cells K2.out).1, (three_cells K2.out).2.1, (three_cells K2.out).2.2, (three_cells K3.out).1, (three_cells K3.out).2.1, (three_cells K3.out).2.2⟩, rfl⟩, ?_⟩
  refine RW.walkR_move ?_
  simp only [List.drop_succ_cons, List.drop_zero, List.take_succ_cons, List.take_zero]
  go_wp2_with fail
  refine ⟨⟨⟨_, (three_cells K1.out).1, (three_cells K1.out).2.1, (three_cells K1.out).2.2, (three_cells K2.out).1, (three_cells K2.out).2.1, (three_cells K2.out).2.2, (three_cells K3.out).1, (three_cells K3.out).2.1, (three_cells K3.out).2.2⟩, rfl⟩, ?_⟩
  refine RW.walkR_move ?_
  simp only [List.drop_succ_cons, List.drop_zero, List.take_succ_cons, List.take_zero]
  go_wp2_with fail
  refine ⟨⟨⟨_, (three_cells K1.out).1, (three_cells K1.out).2.1, (three_cells K1.out).2.2, (three_cells K2.out).1, (three_cells K2.out).2.1, (three_cells K2.out).2.2, (three_cells K3.out).1, (three_cells K3.out).2.1, (three_cells K3.out).2.2⟩, rfl⟩, ?_⟩
  refine RW.walkR_move ?_
  simp only [List.drop_succ_cons, List.drop_zero, List.take_succ_cons, List.take_zero]
  go_wp2_with fail
  refine ⟨⟨⟨_, (three_cells K1.out).1, (three_cells K1.out).2.1, (three_cells K1.out).2.2, (three_cells K2.out).1, (three_cells K2.out).2.1, (three_cells K2.out).2.2, (three_cells K3.out).1, (three_cells K3.out).2.1, (three_cells K3.out).2.2⟩, rfl⟩, ?_⟩
  refine RW.walkR_move ?_
  simp only [List.drop_succ_cons, List.drop_zero, List.take_succ_cons, List.take_zero]
  go_wp2_with fail
  refine ⟨⟨⟨_, (three_cells K1.out).1, (three_cells K1.out).2.1, (three_cells K1.out).2.2, (three_cells K2.out).1, (three_cells K2.out).2.1, (three_cells K2.out).2.2, (three_cells K3.out).1, (three_cells K3.out).2.1, (three_cells K3.out).2.2⟩, rfl⟩, ?_⟩
  refine RW.walkR_move ?_
  simp only [List.drop_succ_cons, List.drop_zero, List.take_succ_cons, List.take_zero]
  go_wp2_with fail
  refine ⟨⟨⟨_, (three_cells K1.out).1, (three_cells K1.out).2.1, (three_cells K1.out).2.2, (three_cells K2.out).1, (three_cells K2.out).2.1, (three_cells K2.out).2.2, (three_cells K3.out).1, (three_cells K3.out).2.1, (three_cells K3.out).2.2⟩, rfl⟩, ?_⟩
  refine RW.walkR_move ?_
  simp only [List.drop_succ_cons, List.drop_zero, List.take_succ_cons, List.take_zero]
  go_wp2_with fail
  refine ⟨⟨⟨_, (three_cells K1.out).1, (three_cells K1.out).2.1, (three_cells K1.out).2.2, (three_cells K2.out).1, (three_cells K2.out).2.1, (three_cells K2.out).2.2, (three_cells K3.out).1, (three_cells K3.out).2.1, (three_cells K3.out).2.2⟩, rfl⟩, ?_⟩
  refine RW.walkR_read ?_
  simp only [List.drop_succ_cons, List.drop_zero, List.take_succ_cons, List.take_zero]
  go_big_quiet_step (fail)
  refine wpQuiet_nil ?_
  refine RW.walkR_read ?_
  simp only [List.drop_succ_cons, List.drop_zero, List.take_succ_cons, List.take_zero]
  go_big_quiet_step (fail)
  refine wpQuiet_nil ?_
  refine RW.walkR_move ?_
  simp only [List.drop_succ_cons, List.drop_zero, List.take_succ_cons, List.take_zero]
  go_wp2_with fail
  refine Calls.mono (mt_same y2 s2 s1 T2.out T1.out) ?_
  rintro e y3 ⟨rfl, hb⟩
  have B10 := Lib.hid (B9.out.trans (hb.mono B9.out.size))
  have X10 := Lib.hid (X9.out.below hb (Nat.le_refl _))
  have K1n := Lib.hid (heap_kept K1.out hb (Nat.le_refl _))
  have T1n := Lib.hid (T1.out.below hb (Nat.le_refl _))
  clear K1 T1
  have K1 := K1n
  have T1 := T1n
  clear K1n T1n
  have K2n := Lib.hid (heap_kept K2.out hb (Nat.le_refl _))
  have T2n := Lib.hid (T2.out.below hb (Nat.le_refl _))
  clear K2 T2
  have K2 := K2n
  have T2 := T2n
  clear K2n T2n
  have K3n := Lib.hid (heap_kept K3.out hb (Nat.le_refl _))
  have T3n := Lib.hid (T3.out.below hb (Nat.le_refl _))
  clear K3 T3
  have K3 := K3n
  have T3 := T3n
  clear K3n T3n
  clear hb B9 X9
  go_wp2_with fail
  refine ⟨⟨⟨_, (three_cells K1.out).1, (three_cells K1.out).2.1, (three_cells K1.out).2.2, (three_cells K2.out).1, (three_cells K2.out).2.1, (three_cells K2.out).2.2, (three_cells K3.out).1, (three_cells K3.out).2.1, (three_cells K3.out).2.2⟩, rfl⟩, ?_⟩
  refine RW.walkR_move ?_
  simp only [List.drop_succ_cons, List.drop_zero, List.take_succ_cons, List.take_zero]
  go_wp2_with fail
  refine ⟨⟨⟨_, (three_cells K1.out).1, (three_cells K1.out).2.1, (three_cells K1.out).2.2, (three_cells K2.out).1, (three_cells K2.out).2.1, (three_cells K2.out).2.2, (three_cells K3.out).1, (three_cells K3.out).2.1, (three_cells K3.out).2.2⟩, rfl⟩, ?_⟩
  refine RW.walkR_move ?_
  simp only [List.drop_succ_cons, List.drop_zero, List.take_succ_cons, List.take_zero]
  go_wp2_with fail
  refine ⟨⟨⟨_, (three_cells K1.out).1, (three_cells K1.out).2.1, (three_cells K1.out).2.2, (three_cells K2.out).1, (three_cells K2.out).2.1, (three_cells K2.out).2.2, (three_cells K3.out).1, (three_cells K3.out).2.1, (three_cells K3.out).2.2⟩, rfl⟩, ?_⟩
  refine RW.walkR_move ?_
  simp only [List.drop_succ_cons, List.drop_zero, List.take_succ_cons, List.take_zero]
  go_wp2_with fail
  refine ⟨⟨⟨_, (three_cells K1.out).1, (three_cells K1.out).2.1, (three_cells K1.out).2.2, (three_cells K2.out).1, (three_cells K2.out).2.1, (three_cells K2.out).2.2, (three_cells K3.out).1, (three_cells K3.out).2.1, (three_cells K3.out).2.2⟩, rfl⟩, ?_⟩
  refine RW.walkR_move ?_
  simp only [List.drop_succ_cons, List.drop_zero, List.take_succ_cons, List.take_zero]
  go_wp2_with fail
  refine ⟨⟨⟨_, (three_cells K1.out).1, (three_cells K1.out).2.1, (three_cells K1.out).2.2, (three_cells K2.out).1, (three_cells K2.out).2.1, (three_cells K2.out).2.2, (three_cells K3.out).1, (three_cells K3.out).2.1, (three_cells K3.out).2.2⟩, rfl⟩, ?_⟩
  refine RW.walkR_move ?_
  simp only [List.drop_succ_cons, List.drop_zero, List.take_succ_cons, List.take_zero]
  go_wp2_with fail
  refine ⟨⟨⟨_, (three_cells K1.out).1, (three_cells K1.out).2.1, (three_cells K1.out).2.2, (three_cells K2.out).1, (three_cells K2.out).2.1, (three_cells K2.out).2.2, (three_cells K3.out).1, (three_cells K3.out).2.1, (three_cells K3.out).2.2⟩, rfl⟩, ?_⟩
  refine RW.walkR_move ?_
  simp only [List.drop_succ_cons, List.drop_zero, List.take_succ_cons, List.take_zero]
  go_wp2_with fail
  refine ⟨⟨⟨_, (three_cells K1.out).1, (three_cells K1.out).2.1, (three_cells K1.out).2.2, (three_cells K2.out).1, (three_cells K2.out).2.1, (three_cells K2.out).2.2, (three_cells K3.out).1, (three_cells K3.out).2.1, (three_cells K3.out).2.2⟩, rfl⟩, ?_⟩
  refine RW.walkR_read ?_
  simp only [List.drop_succ_cons, List.drop_zero, List.take_succ_cons, List.take_zero]
  go_big_quiet_step (fail)
  refine wpQuiet_nil ?_
  refine RW.walkR_read ?_
  simp only [List.drop_succ_cons, List.drop_zero, List.take_succ_cons, List.take_zero]
  go_big_quiet_step (fail)
  refine wpQuiet_nil ?_
  refine RW.walkR_move ?_
  simp only [List.drop_succ_cons, List.drop_zero, List.take_succ_cons, List.take_zero]
  go_wp2_with fail
  refine Calls.mono (mt_same y3 s3 s1 T3.out T1.out) ?_
  rintro e y4 ⟨rfl, hb⟩
  have B11 := Lib.hid (B10.out.trans (hb.mono B10.out.size))
  have X11 := Lib.hid (X10.out.below hb (Nat.le_refl _))
  have K1n := Lib.hid (heap_kept K1.out hb (Nat.le_refl _))
  have T1n := Lib.hid (T1.out.below hb (Nat.le_refl _))
  clear K1 T1
  have K1 := K1n
  have T1 := T1n
  clear K1n T1n
  have K2n := Lib.hid (heap_kept K2.out hb (Nat.le_refl _))
  have T2n := Lib.hid (T2.out.below hb (Nat.le_refl _))
  clear K2 T2
  have K2 := K2n
  have T2 := T2n
  clear K2n T2n
  have K3n := Lib.hid (heap_kept K3.out hb (Nat.le_refl _))
  have T3n := Lib.hid (T3.out.below hb (Nat.le_refl _))
  clear K3 T3
  have K3 := K3n
  have T3 := T3n
  clear K3n T3n
  clear hb B10 X10
  go_wp2_with fail
  clear n6 q0 q1 q2 q3 q4 q5 q6 q7 q8
  refine RW.walkR_move ?_
  simp only [List.drop_succ_cons, List.drop_zero, List.take_succ_cons, List.take_zero]
  go_wp2_with fail
  refine RW.walkR_move ?_
  simp only [List.drop_succ_cons, List.drop_zero, List.take_succ_cons, List.take_zero]
  go_wp2_with fail
  refine RW.walkR_move ?_
  simp only [List.drop_succ_cons, List.drop_zero, List.take_succ_cons, List.take_zero]
  go_wp2_with fail
  refine RW.walkR_move ?_
  simp only [List.drop_succ_cons, List.drop_zero, List.take_succ_cons, List.take_zero]
  go_wp2_with fail
  refine RW.walkR_move ?_
  simp only [List.drop_succ_cons, List.drop_zero, List.take_succ_cons, List.take_zero]
  go_wp2_with fail
  refine RW.walkR_move ?_
  simp only [List.drop_succ_cons, List.drop_zero, List.take_succ_cons, List.take_zero]
  go_wp2_with fail
  refine RW.walkR_any ?_
  simp only [List.drop_succ_cons, List.drop_zero, List.take_succ_cons, List.take_zero]
  go_big_quiet_step (fail)
  refine wpQuiet_nil ?_
  refine RW.walkR_move ?_
  simp only [List.drop_succ_cons, List.drop_zero, List.take_succ_cons, List.take_zero]
  go_wp2_with fail
  obtain ⟨ya, hya⟩ : ∃ ya, y4.alloc (.cells #[.int .i64 (-6), .int .i64 4] 3) = ya := ⟨_, rfl⟩
  have hb : Below y4.heap.size y4 ya := by rw [← hya]; exact (Below.refl _ _).alloc (Nat.le_refl _) _
  have XL : Hid (Rd ya (some ⟨y4.heap.size, 0, none⟩) (ints [-6, 4])) := by rw [← hya]; exact rd_ints (t := 3) (heap_at _ _ _ _ rfl)
  have BA := Lib.hid (B11.out.trans (hb.mono B11.out.size))
  have XA := Lib.hid (X11.out.below hb (Nat.le_refl _))
  clear hb B11 X11
  first | rw [hya] | skip
  refine RW.walkR_move ?_
  simp only [List.drop_succ_cons, List.drop_zero, List.take_succ_cons, List.take_zero]
  go_wp2_with fail
  refine Calls.mono (eqRows_any ya _ _ cx 2 [-6, 4] [-6, 4] XA.out XL.out (by decide)) ?_
  rintro e y5 ⟨rfl, hb⟩
  have BA_ := Lib.hid (BA.out.trans (hb.mono BA.out.size))
  go_wp2_with fail
  refine RW.walkR_move ?_
  simp only [List.drop_succ_cons, List.drop_zero, List.take_succ_cons, List.take_zero]
  go_wp2_with fail
  refine RW.walkR_move ?_
  simp only [List.drop_succ_cons, List.drop_zero, List.take_succ_cons, List.take_zero]
  go_wp2_with fail
  refine RW.walkR_move ?_
  simp only [List.drop_succ_cons, List.drop_zero, List.take_succ_cons, List.take_zero]
  go_wp2_with fail
  refine RW.walkR_move ?_
  simp only [List.drop_succ_cons, List.drop_zero, List.take_succ_cons, List.take_zero]
  go_wp2_with fail
  refine RW.walkR_move ?_
  simp only [List.drop_succ_cons, List.drop_zero, List.take_succ_cons, List.take_zero]
  go_wp2_with fail
  refine RW.walkR_move ?_
  simp only [List.drop_succ_cons, List.drop_zero, List.take_succ_cons, List.take_zero]
  go_wp2_with fail
  refine RW.walkR_move ?_
  simp only [List.drop_succ_cons, List.drop_zero, List.take_succ_cons, List.take_zero]
  go_wp2_with fail
  refine RW.walkR_move ?_
  simp only [List.drop_succ_cons, List.drop_zero, List.take_succ_cons, List.take_zero]
  go_wp2_with fail
  refine RW.walkR_move ?_
  simp only [List.drop_succ_cons, List.drop_zero, List.take_succ_cons, List.take_zero]
  go_wp2_with fail
  refine RW.walkR_move ?_
  simp only [List.drop_succ_cons, List.drop_zero, List.take_succ_cons, List.take_zero]
  go_wp2_with fail
  simp only [RW.walkR]
  go_wp2_with fail
  go_ret
  exact ⟨rfl, BA_.out⟩

end Go.Proofs.YtepicfdhphiiaaaGreatDoor

/- monzo.exponent. -/
namespace Go.Proofs.YtepicfdhphiiaaaGreatDoor
open Go.RowKit

/-- Taking out a prime. -/
def ex : Nat → Nat → Nat → Nat → Nat × Nat
  | 0, n, _, t => (n, t)
  | f + 1, n, p, t => if n % p = 0 then ex f (n / p) p (t + 1) else (n, t)

theorem exponent_any (w : World) (n p : Nat) (hn : 0 < n) (hf : n < 2 ^ 64) (hp : 2 ≤ p) (hp2 : p ≤ 97) (L : Laid w) :
    Gives Tryz.prog 90 #[.string (dec n), .int .i64 p] w (.tuple #[.string (dec (ex 64 n p 0).1), .int .i64 (ex 64 n p 0).2]) := by
  unfold Gives
  have HO := Lib.hid (fun W (hW : Below w.heap.size w W) => show Gives Tryz.prog 83 #[.int .i64 p] W (.string (dec p)) from by
    have := ofz_any W p (by omega) (by omega) (L.below hW)
    rw [itx_nat] at this
    exact this)
  have HD := Lib.hid (fun W (hW : Below w.heap.size w W) (m : Nat) (hm : m < 2 ^ 64) => show Gives Tryz.prog 103 #[.string (dec m), .string (dec p)] W (.tuple #[.string (dec (m / p)), .string (dec (m % p)), .int .i64 0]) from by
    have hb := big_lim
    have := divmodz_any W m p (lim_z (by omega)) (lim_num (by omega)) (by omega) (lim_num (by omega)) (L.below hW)
    rw [itx_nat, show (m : Int) / (p : Int) = ((m / p : Nat) : Int) from rfl, show (m : Int) % (p : Int) = ((m % p : Nat) : Int) from rfl, itx_nat, itx_nat] at this
    exact this)
  have HZ := Lib.hid (fun m : Nat => show ((dec m).toList == [48]) = decide (m = 0) from by
    have := itx_isz (m : Int)
    rw [itx_nat] at this
    rw [this]
    exact decide_eq_decide.2 (by omega))
  obtain ⟨R, hR⟩ : ∃ R, ex 64 n p 0 = R := ⟨_, rfl⟩
  rw [hR]
  have HR := Lib.hid hR
  clear hR L
  have Hn := Lib.hid (show 0 < n ∧ n < 2 ^ 64 from ⟨hn, hf⟩)
  clear hn hf
  go_enter Tryz.func90, Tryz.ntmps90
  go_wp2_with fail
  go_loopw [0, 5] (fun o i wr => ∃ (f m t : Nat), o = .string (dec m) ∧ i = .int .i64 t ∧ Hid (0 < m ∧ m < 2 ^ f ∧ f ≤ 64 ∧ t + f = 64 ∧ ex f m p t = R) ∧ Hid (Below w.heap.size w wr)) (fun _ i _ => 64 - (intOf i).toNat)
  case atStart => exact ⟨64, n, 0, rfl, rfl, ⟨Hn.out.1, Hn.out.2, Nat.le_refl _, rfl, HR.out⟩, Below.refl _ _⟩
  case round =>
    clear Hn HR
    obtain ⟨f, m, t, rfl, rfl, HE, D⟩ := hrel
    have hm64 : m < 2 ^ 64 := Nat.lt_of_lt_of_le HE.out.2.1 (Nat.pow_le_pow_right (by decide) HE.out.2.2.1)
    have HD1 := Lib.hid (fun W hW => HD.out W hW m hm64)
    have hz := HZ.out (m % p)
    have ht64 : t ≤ 64 := by have := HE.out.2.2.2.1; omega
    clear hm64
    go_wp2_with fail
    refine Calls.mono (HO.out wr D.out) ?_
    rintro e w1 ⟨rfl, hb⟩
    have D1 := Lib.hid (D.out.trans (hb.mono D.out.size))
    clear hb D
    go_wp2_with fail
    refine Calls.mono (HD1.out w1 D1.out) ?_
    rintro e w2 ⟨rfl, hb⟩
    have D2 := Lib.hid (D1.out.trans (hb.mono D1.out.size))
    clear hb D1 HD1
    by_cases h0 : m % p = 0
    · rw [decide_eq_true h0] at hz
      have H0 := Lib.hid h0
      clear h0
      go_wp2_with fail
      go_roundw
      case rel =>
        obtain ⟨q1, q2, q3, q4, q5⟩ := HE.out
        have hpm : p ≤ m := by
          rcases Nat.lt_or_ge m p with h | h
          · rw [Nat.mod_eq_of_lt h] at H0; have := H0.out; omega
          · exact h
        match f, q2, q3, q4, q5 with
        | 0, q2, _, _, _ => simp at q2; omega
        | f + 1, q2, q3, q4, q5 =>
          refine ⟨f, m / p, t + 1, rfl, by go_num, ⟨Nat.div_pos hpm (by omega), ?_, by omega, by omega, ?_⟩, D2⟩
          · refine Nat.div_lt_of_lt_mul ?_
            refine Nat.lt_of_lt_of_le q2 ?_
            rw [Nat.pow_succ, Nat.mul_comm]
            exact Nat.mul_le_mul_right _ hp
          · unfold ex at q5
            rw [if_pos H0.out] at q5
            exact q5
      case measure =>
        have hf1 : 0 < f := by
          obtain ⟨q1, q2, q3, q4, q5⟩ := HE.out
          rcases Nat.eq_zero_or_pos f with h | h
          · subst h
            have hpm : p ≤ m := by
              rcases Nat.lt_or_ge m p with h | h
              · rw [Nat.mod_eq_of_lt h] at H0; have := H0.out; omega
              · exact h
            simp at q2; omega
          · exact h
        have := HE.out.2.2.2.1
        simp [intOf]; omega
    · rw [decide_eq_false h0] at hz
      have H0 := Lib.hid h0
      clear h0
      go_wp2_with fail
      go_ret2
      refine ⟨?_, D2.out⟩
      obtain ⟨q1, q2, q3, q4, q5⟩ := HE.out
      have : R = (m, t) := by
        rw [← q5]
        cases f with
        | zero => rfl
        | succ f => unfold ex; rw [if_neg H0.out]
      rw [this]
      rfl

theorem ex_pos : ∀ f n p t, 0 < n → 0 < (ex f n p t).1
  | 0, _, _, _, h => h
  | f + 1, n, p, t, h => by
    unfold ex
    split
    · rename_i h0
      refine ex_pos f _ p _ ?_
      rcases Nat.eq_zero_or_pos p with h1 | h1
      · subst h1; simp at h0; omega
      · exact Nat.div_pos (Nat.le_of_dvd h (Nat.dvd_of_mod_eq_zero h0)) h1
    · exact h
theorem ex_le : ∀ f n p t, (ex f n p t).1 ≤ n
  | 0, _, _, _ => Nat.le_refl _
  | f + 1, n, p, t => by
    unfold ex
    split
    · exact Nat.le_trans (ex_le f _ p _) (Nat.div_le_self _ _)
    · exact Nat.le_refl _
theorem ex_t : ∀ f n p t, (ex f n p t).2 ≤ t + f
  | 0, _, _, _ => Nat.le_refl _
  | f + 1, n, p, t => by
    unfold ex
    split
    · have := ex_t f (n / p) p (t + 1); omega
    · show t ≤ _; omega
/-- What is left behind some primes. -/
def stN (ps : List Int) (n : Nat) : Nat → Nat
  | 0 => n
  | k + 1 => (ex 64 (stN ps n k) (ps.getD k 0).toNat 0).1
theorem stN_pos (ps : List Int) (n : Nat) (h : 0 < n) : ∀ k, 0 < stN ps n k
  | 0 => h
  | k + 1 => ex_pos _ _ _ _ (stN_pos ps n h k)
theorem stN_le (ps : List Int) (n : Nat) : ∀ k, stN ps n k ≤ n
  | 0 => Nat.le_refl _
  | k + 1 => Nat.le_trans (ex_le _ _ _ _) (stN_le ps n k)
def upX (ps : List Int) (n d k : Nat) : Int := ((ex 64 (stN ps n k) (ps.getD k 0).toNat 0).2 : Int) - ((ex 64 (stN ps d k) (ps.getD k 0).toNat 0).2 : Int)
def ofX (ps : List Int) (n d m : Nat) : List Int := (List.range m).map (upX ps n d)
theorem ofX_length (ps : List Int) (n d m : Nat) : (ofX ps n d m).length = m := by simp [ofX]
theorem ofX_succ (ps : List Int) (n d m : Nat) : ofX ps n d (m + 1) = ofX ps n d m ++ [upX ps n d m] := by
  unfold ofX
  rw [List.range_succ, List.map_append]; rfl

theorem mzOf_any (w : World) (a0 : Option Addr) (c0 : Nat) (ps : List Int) (n d : Nat) (rp : Rd w a0 (ints ps)) (P : PsR ps) (hp : ∀ p ∈ ps, 2 ≤ p ∧ p ≤ 97) (hn : 0 < n) (hd : 0 < d) (hn2 : n < 2 ^ 64) (hd2 : d < 2 ^ 64) (hg : Nat.gcd n d = 1) (hX : Xs (ofX ps n d ps.length)) (L : Laid w) :
    Calls Tryz.prog 53 #[.slice a0 ps.length c0, .agg #[.string (dec n), .string (dec d)]] w fun e w' => Below w.heap.size w w' ∧ (if stN ps n ps.length = 1 ∧ stN ps d ps.length = 1 then ∃ a c, e = .returned (.tuple #[.slice a ps.length c, .int .i64 0]) ∧ Rd w' a (ints (ofX ps n d ps.length)) else e = .returned (.tuple #[.slice none 0 0, .int .i64 25])) := by
  obtain ⟨hp0, hp6⟩ := P.len
  have hbl := big_lim
  have hsz : ∀ m, m < 2 ^ 64 → (dec m).size ≤ 400 := fun m hm => Nat.le_trans ((size_lt m 20 (by decide)).2 (by have e : (10 : Nat) ^ 20 = 100000000000000000000 := rfl; omega)) (by decide)
  have HP := Lib.hid (fun W (hW : Below w.heap.size w W) => show Gives Tryz.prog 37 #[.slice a0 ps.length c0] W (.int .i64 0) from by
    have := primeCheck_any W a0 c0 ps (rp.below hW (Nat.le_refl _)) P.i (by omega)
    rw [P.c] at this
    exact this)
  have HF := Lib.hid (fun W (hW : Below w.heap.size w W) => show Gives Tryz.prog 88 #[.agg #[.string (dec n), .string (dec d)]] W (.int .i64 0) from by
    have := check_frac W n d (lim_z (by omega)) (lim_num (by omega)) hd (L.below hW)
    unfold fv at this
    rw [if_pos ⟨⟨hsz n hn2, hsz d hd2⟩, hg⟩, itx_nat] at this
    exact this)
  have HS := Lib.hid (fun W => show Gives Tryz.prog 89 #[.agg #[.string (dec n), .string (dec d)]] W (.int .i64 1) from by
    have := sign_frac W n d
    unfold fv at this
    rw [itx_nat, Int.sign_eq_one_of_pos (by omega)] at this
    exact this)
  have HE := Lib.hid (fun W (hW : Below w.heap.size w W) m k (hm : 0 < m ∧ m < 2 ^ 64) (hk : k < ps.length) => show Gives Tryz.prog 90 #[.string (dec m), .int .i64 (ps.getD k 0)] W (.tuple #[.string (dec (ex 64 m (ps.getD k 0).toNat 0).1), .int .i64 (ex 64 m (ps.getD k 0).toNat 0).2]) from by
    have h2 := hp _ (getD_mem hk)
    have := exponent_any W m (ps.getD k 0).toNat hm.1 hm.2 (by omega) (by omega) (L.below hW)
    rw [Int.toNat_of_nonneg (by omega)] at this
    exact this)
  have HR := Lib.hid (fun W a c (hW : Below w.heap.size w W) (hr : Rd W a (ints (ofX ps n d ps.length))) => monResult_ok W ps (ofX ps n d ps.length) a0 a c0 c (rp.below hW (Nat.le_refl _)) P.i P.c hr (by rw [ofX_length]) hX)
  have HN := Lib.hid (fun k => (⟨stN_pos ps n hn k, Nat.lt_of_le_of_lt (stN_le ps n k) hn2⟩ : 0 < stN ps n k ∧ stN ps n k < 2 ^ 64))
  have HDn := Lib.hid (fun k => (⟨stN_pos ps d hd k, Nat.lt_of_le_of_lt (stN_le ps d k) hd2⟩ : 0 < stN ps d k ∧ stN ps d k < 2 ^ 64))
  have H1 := Lib.hid (fun k => (show stN ps n (k + 1) = (ex 64 (stN ps n k) (ps.getD k 0).toNat 0).1 from rfl))
  have H2 := Lib.hid (fun k => (show stN ps d (k + 1) = (ex 64 (stN ps d k) (ps.getD k 0).toNat 0).1 from rfl))
  have H01 : Hid (stN ps n 0 = n) := rfl
  have H02 : Hid (stN ps d 0 = d) := rfl
  have HU := Lib.hid (fun k => (show upX ps n d k = ((ex 64 (stN ps n k) (ps.getD k 0).toNat 0).2 : Int) - ((ex 64 (stN ps d k) (ps.getD k 0).toNat 0).2 : Int) from rfl))
  have HT := Lib.hid (fun m k => ex_t 64 m (ps.getD k 0).toNat 0)
  have HO := Lib.hid (fun k => ofX_succ ps n d k)
  have HO0 : Hid (ints (ofX ps n d 0) = []) := rfl
  have HRp : Hid (∃ b off, a0 = some ⟨b, off, none⟩ ∧ ∀ W, Below w.heap.size w W → ∀ k, k < ps.length → W.cell? ⟨b, off + k, none⟩ = some (.int .i64 (ps.getD k 0))) := by
    obtain ⟨b, off, e, hb, hc⟩ := rp.open (by rw [ints_length]; omega)
    exact ⟨b, off, e, fun W hW k hk => by
      rw [hW.cell (p := ⟨b, off + k, none⟩) hb]
      exact hc k _ (by rw [ints_get _ _ hk, List.getD_eq_getElem?_getD, List.getElem?_eq_getElem hk]; rfl)⟩
  have HD1 := Lib.hid (fun m : Nat => show ((dec m).toList == [49]) = decide (m = 1) from by
    have := same_dec m 1
    rw [dec_one, show (ByteArray.mk #[49]).toList = [49] from by rw [toList_lb]; rfl] at this
    exact this)
  clear P rp hp hn hd hn2 hd2 hg hX L hbl hsz
  generalize stN ps n = sn at *
  generalize stN ps d = sd at *
  generalize ofX ps n d = ox at *
  generalize upX ps n d = ux at *
  obtain ⟨m, hm⟩ : ∃ m, ps.length = m := ⟨_, rfl⟩
  rw [hm] at HP HE HR HRp hp0 hp6 ⊢
  clear hm
  obtain ⟨pb, po, rfl, hpc⟩ := HRp.out
  have HPc := Lib.hid hpc
  clear hpc HRp
  have K0 := Lib.hid (heap_at w #[.string (dec n), .string (dec d)] 103 _ rfl)
  have B0 := Lib.hid ((Below.refl w.heap.size w).alloc (Nat.le_refl _) (.cells #[.string (dec n), .string (dec d)] 103))
  obtain ⟨j0, j1⟩ := two_c K0.out
  go_enter Tryz.func53, Tryz.ntmps53
  go_wp2_with fail
  generalize w.alloc (.cells #[.string (dec n), .string (dec d)] 103) = w0 at *
  refine Calls.mono (HP.out w0 B0.out) ?_
  rintro e w1 ⟨rfl, hb⟩
  have B1 := Lib.hid (B0.out.trans (hb.mono B0.out.size))
  have K1 := Lib.hid (heap_kept K0.out hb (Nat.le_refl _))
  clear hb B0 K0 j0 j1 HP
  obtain ⟨j0, j1⟩ := two_c K1.out
  go_wp2_with fail
  refine Calls.mono (HF.out w1 B1.out) ?_
  rintro e w2 ⟨rfl, hb⟩
  have B2 := Lib.hid (B1.out.trans (hb.mono B1.out.size))
  have K2 := Lib.hid (heap_kept K1.out hb (Nat.le_refl _))
  clear hb B1 K1 j0 j1 HF
  obtain ⟨j0, j1⟩ := two_c K2.out
  go_wp2_with fail
  refine Calls.mono (HS.out w2) ?_
  rintro e w3 ⟨rfl, hb⟩
  have B3 := Lib.hid (B2.out.trans (hb.mono B2.out.size))
  have K3 := Lib.hid (heap_kept K2.out hb (Nat.le_refl _))
  clear hb B2 K2 j0 j1 HS
  obtain ⟨j0, j1⟩ := two_c K3.out
  go_wp2_with fail
  go_quiet (fail)
  have B4 := Lib.hid (below_dn B3.out nq)
  clear B3 K3 j0 j1
  generalize w3.drewN nq = w4 at *
  go_wp2_with fail
  go_loopw [7, 8, 9, 33] (fun x y o i wr => ∃ (k : Nat) (b : Option Addr) (c : Nat), k ≤ m ∧ i = .int .i64 k ∧ x = .string (dec (sn k)) ∧ y = .string (dec (sd k)) ∧ o = .slice b k c ∧ Hid (wr.ownsRow w.heap.size 3 1 (.slice b k c) k (ints (ox k))) ∧ Hid (Below w.heap.size w wr)) (fun _ _ _ i _ => m - (intOf i).toNat)
  case atStart => exact ⟨0, none, 0, Nat.zero_le _, rfl, by rw [H01.out], by rw [H02.out], rfl, by rw [HO0.out]; exact World.ownsRow_nil .., B4⟩
  case round =>
    clear B4
    obtain ⟨k, b, c, hk, rfl, rfl, rfl, rfl, OWN, D⟩ := hrel
    by_cases hlt : k < m
    · have hlt' : (k : Int) < m := by omega
      have hltt : decide (k < m) = true := decide_eq_true hlt
      have x0 := HPc.out wr D.out k hlt
      have E1 := Lib.hid (fun W hW => HE.out W hW (sn k) k (HN.out k) hlt)
      have E2 := Lib.hid (fun W hW => HE.out W hW (sd k) k (HDn.out k) hlt)
      have U := Lib.hid (HU.out k)
      have t1 := HT.out (sn k) k
      have t2 := HT.out (sd k) k
      have S1 := Lib.hid (H1.out k)
      have S2 := Lib.hid (H2.out k)
      have O1 := Lib.hid (HO.out k)
      generalize hr1 : ex 64 (sn k) (ps.getD k 0).toNat 0 = r1 at *
      generalize hr2 : ex 64 (sd k) (ps.getD k 0).toNat 0 = r2 at *
      generalize ps.getD k 0 = pk at *
      obtain ⟨r1a, r1b⟩ := r1
      obtain ⟨r2a, r2b⟩ := r2
      simp only at t1 t2
      have W1 : IntKind.i64.wrap ((r1b : Int) - (r2b : Int)) = (r1b : Int) - r2b := IntWalk.i64_in _ (by omega)
      clear hr1 hr2 t1 t2
      have HI := Lib.hid hlt
      go_wp2_with fail
      refine Calls.mono (E1.out wr D.out) ?_
      rintro e w5 ⟨rfl, hb⟩
      have D5 := Lib.hid (D.out.trans (hb.mono D.out.size))
      have OW5 := Lib.hid (own_below OWN.out hb (Nat.le_refl _))
      clear hb D OWN E1 x0
      go_wp2_with fail
      refine Calls.mono (E2.out w5 D5.out) ?_
      rintro e w6 ⟨rfl, hb⟩
      have D6 := Lib.hid (D5.out.trans (hb.mono D5.out.size))
      have OW6 := Lib.hid (own_below OW5.out hb (Nat.le_refl _))
      clear hb D5 OW5 E2
      go_wp2_with (at_builtin; refine wpList_append_one rfl (.tmp 49) (.tmp 53) 54 rfl elRow _ (.int .i64 ((r1b : Int) - r2b)) rfl rfl OW6.out D6.out.size rfl (by omega) (by omega) ?_)
      intro v' w9 hown9 hg9 hat9
      have Hb9 : Hid (Below w.heap.size w w9) := (D6.out.alloc D6.out.size _).grown hg9 (by simp; have := D6.out.size; omega) (fun k hk => (OW6.out.lt k hk).1)
      obtain ⟨b9, d9, rfl⟩ := own_form hown9
      have Hown9 : Hid (w9.ownsRow w.heap.size 3 1 (.slice b9 (k + 1) d9) (k + 1) (ints (ox (k + 1)))) := by
        show World.ownsRow ..
        rw [O1.out, ints_append, U.out]
        exact hown9
      clear hown9 hg9 hat9 OW6 D6
      go_wp2_with fail
      go_roundw
      case rel => exact ⟨k + 1, b9, d9, by have := HI.out; omega, by go_num, by rw [S1.out], by rw [S2.out], rfl, Hown9, Hb9⟩
      case measure => have := HI.out; simp [intOf]; omega
    · have hlt' : ¬ (k : Int) < m := by omega
      have hltt : decide (k < m) = false := decide_eq_false hlt
      obtain rfl : m = k := by omega
      have e1 := HD1.out (sn m)
      have e2 := HD1.out (sd m)
      have RO := Lib.hid (own_rd OWN.out)
      clear OWN
      by_cases h1 : sn m = 1
      · by_cases h2 : sd m = 1
        · rw [decide_eq_true h1] at e1
          rw [decide_eq_true h2] at e2
          have HR1 := Lib.hid (HR.out wr b c D.out RO.out)
          have H12 := Lib.hid (show sn m = 1 ∧ sd m = 1 from ⟨h1, h2⟩)
          clear h1 h2
          go_wp2_with fail
          refine Calls.mono HR1.out ?_
          rintro e w8 ⟨rfl, hb⟩
          have RO8 := Lib.hid (RO.out.below hb (Nat.le_refl _))
          have D8 := Lib.hid (D.out.trans (hb.mono D.out.size))
          clear hb RO D HR1
          go_wp2_with fail
          go_ret2
          refine ⟨D8.out, ?_⟩
          exact ⟨b, ⟨c, rfl⟩, RO8.out⟩
        · rw [decide_eq_true h1] at e1
          rw [decide_eq_false h2] at e2
          have H12 := Lib.hid (show ¬ (sn m = 1 ∧ sd m = 1) from fun h => h2 h.2)
          clear h1 h2
          go_wp2_with fail
          go_ret2
          refine ⟨D.out, ?_⟩
          rfl
      · rw [decide_eq_false h1] at e1
        have H12 := Lib.hid (show ¬ (sn m = 1 ∧ sd m = 1) from fun h => h1 h.1)
        clear h1 e2
        go_wp2_with fail
        go_ret2
        refine ⟨D.out, ?_⟩
        rfl

end Go.Proofs.YtepicfdhphiiaaaGreatDoor
