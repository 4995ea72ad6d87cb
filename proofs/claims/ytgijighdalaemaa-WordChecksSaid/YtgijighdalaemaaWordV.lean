/- The law on rotations: what the law's function returns. -/
import Derived.Test.YtgijighdalaemaaNeckB
namespace Go.Proofs.Ytgijighdalaemaa
open Go.RowKit

theorem find_first (p : Nat → Prop) (n : Nat) : (∃ k, k < n ∧ p k ∧ ∀ j, j < k → ¬ p j) ∨ (∀ j, j < n → ¬ p j) := by
  induction n with
  | zero => right; intro j hj; omega
  | succ n ih =>
    rcases ih with ⟨k, h1, h2, h3⟩ | h
    · exact .inl ⟨k, by omega, h2, h3⟩
    · by_cases hp : p n
      · exact .inl ⟨n, by omega, hp, h⟩
      · refine .inr (fun j hj => ?_)
        rcases Nat.lt_or_ge j n with h1 | h1
        · exact h j h1
        · rw [show j = n by omega]; exact hp

/-- A rotation that leaves a word alone, the least one from 1 on, divides its length. -/
theorem rotl_divides (w : List UInt8) (n : Nat) (h1 : 1 ≤ n) (h2 : n ≤ w.length) (hn : rotl w n = w) (hmin : ∀ m, 1 ≤ m → m < n → rotl w m ≠ w) : w.length % n = 0 := by
  apply Classical.byContradiction
  intro hne
  have hL : 0 < w.length := by omega
  have hx : ∀ i, nth w ((i + n) % w.length) = nth w (i % w.length) := fun i => by
    have := nth_rotl w n (i % w.length) h2 (Nat.mod_lt _ hL)
    rw [hn] at this
    rw [this]
    congr 1
    rw [Nat.add_comm n, Nat.mod_add_mod]
  have hq : ∀ q i, nth w ((i + q * n) % w.length) = nth w (i % w.length) := fun q => by
    induction q with
    | zero => intro i; simp
    | succ q ih => intro i; rw [Nat.succ_mul, ← Nat.add_assoc, hx, ih]
  have hr : w.length % n < n := Nat.mod_lt _ (by omega)
  refine hmin (w.length % n) (by omega) hr ?_
  refine eq_of_nth (rotl_length _ _) fun i hi => ?_
  rw [rotl_length] at hi
  rw [nth_rotl w _ i (by omega) hi]
  have := hq (w.length / n) (w.length % n + i)
  have e : w.length % n + i + w.length / n * n = i + w.length := by
    have := Nat.mod_add_div w.length n
    rw [Nat.mul_comm] at this
    omega
  rw [e, Nat.add_mod_right] at this
  rw [← this, Nat.mod_eq_of_lt hi]

theorem rot_eq_iff (s t : ByteArray) (k : Nat) (hk : k ≤ s.size) : rot s k = t ↔ rotl (lb s) k = lb t := by
  constructor
  · intro h; rw [← lb_rot s k hk, h]
  · intro h; rw [← bs_lb (rot s k), lb_rot s k hk, h, bs_lb]

/-- The root's length. -/
theorem root_first (s : ByteArray) (h0 : 0 < s.size) : ∃ n, 1 ≤ n ∧ n ≤ s.size ∧ rot s (n % s.size) = s ∧ s.size % n = 0 ∧ (∀ m, 1 ≤ m → m < n → rot s m ≠ s) := by
  rcases find_first (fun n => 1 ≤ n ∧ rot s n = s) s.size with ⟨n, h1, ⟨h2, h3⟩, h4⟩ | h
  · refine ⟨n, h2, by omega, by rw [Nat.mod_eq_of_lt h1]; exact h3, ?_, fun m hm1 hm2 he => h4 m hm2 ⟨hm1, he⟩⟩
    have := rotl_divides (lb s) n h2 (by rw [lb_length]; omega) ((rot_eq_iff s s n (by omega)).1 h3) (fun m hm1 hm2 he => h4 m hm2 ⟨hm1, (rot_eq_iff s s m (by omega)).2 he⟩)
    rw [lb_length] at this
    exact this
  · exact ⟨s.size, h0, Nat.le_refl _, by rw [Nat.mod_self, rot_zero], Nat.mod_self _, fun m hm1 hm2 he => h m hm2 ⟨hm1, he⟩⟩

/-- What Primitive returns, from the root's length. -/
theorem prim_root (s : ByteArray) (w : World) (hv : chk (lb s) = 0) (n : Nat) (h1 : 1 ≤ n) (h2 : n ≤ s.size) (h3 : rot s (n % s.size) = s) (h4 : s.size % n = 0) (h5 : ∀ m, 1 ≤ m → m < n → rot s m ≠ s) :
    Gives Try.prog 22 #[.string s] w (.tuple #[.string (s.extract 0 n), .int .i64 ((s.size / n : Nat) : Int), .int .i64 0]) := by
  refine prim_upto s w hv n h1 h2 (fun m hm1 hm2 hp => h5 m hm1 hm2 hp.2) _ ?_
  rcases Nat.lt_or_ge n s.size with h | h
  · exact .inl ⟨h, ⟨h4, by rw [Nat.mod_eq_of_lt h] at h3; exact h3⟩, by rw [Int.natCast_ediv]⟩
  · have e : n = s.size := by omega
    refine .inr ⟨e, ?_⟩
    rw [e, Nat.div_self (by omega)]
    congr 2
    simp

end Go.Proofs.Ytgijighdalaemaa
