/- Contracts of the functions that PatternParts reaches, and the walk of the law, part 1. Conditions: none. -/
import Derived.Test.YtcnednlaaigagaaSxThree
import Derived.Test.YtcnednlaaigagaaChecked
namespace Go.Sx.T1
open Go.Proofs

theorem mix : Try.prog.follows .mixedOrders = true := by kernel_rfl

def mMod (n m : Int) : Int := if m < 1 then 0 else n % m

theorem tmod_fix (n m : Int) (h : 1 ≤ m) : (n.tmod m < 0 → n.tmod m + m = n % m) ∧ (¬ n.tmod m < 0 → n.tmod m = n % m) := by
  have h1 := Int.emod_lt_of_pos n (show 0 < m by omega)
  have h2 := Int.emod_nonneg n (show m ≠ 0 by omega)
  rw [Int.tmod_eq_emod]
  split <;> omega

set_option maxRecDepth 10000 in
theorem mod_fc (n m : Int) (hm : m < 9223372036854775808) : FC Try.prog 18 [int .i64 n, int .i64 m] [] (int .i64 (mMod n m)) [] := by
  refine FC.b mix Try.func18 ?_
  refine bselD (fun h => ?_) (fun h => ?_)
  · exact ⟨congrArg (int .i64) (by simp [mMod, h]), trivial⟩
  · refine ⟨by omega, ?_⟩
    have hlt := Int.tmod_lt_of_pos n (show 0 < m by omega)
    have hgt := Int.lt_tmod_of_pos n (show 0 < m by omega)
    have e := tmod_fix n m (by omega)
    refine bselD (fun h2 => ?_) (fun h2 => ?_)
    · refine ⟨congrArg (int .i64) ?_, trivial⟩
      rw [wrap64_in (by omega) (by omega)]
      simp only [mMod, h, if_false]
      exact e.1 h2
    · exact ⟨congrArg (int .i64) (by simp [mMod, h]; exact e.2 h2), trivial⟩

/-- the dice: name 0 the two fields, name 1 the numbers; k numbers have been asked for -/
def diceB (ts : List Int) (k : Nat) : Option Blk := some ⟨.box [.s 1 0 ts.length 1, .v (.int .i64 (min k ts.length : Nat))], true⟩
def diceL (ts : List Int) : Option Blk := some ⟨.ints .i64 ts, false⟩
def dv (ts : List Int) (k : Nat) (n : Int) : Int := mMod (ts.getD k 0) n

set_option maxRecDepth 10000 in
theorem next_fc (ts : List Int) (k : Nat) (n : Int) (hn : n < 9223372036854775808) (hl : ts.length ≤ 400) :
    FC Try.prog 30 [.o (.c (.p 0 0 0)), int .i64 n] [diceB ts k, diceL ts] (int .i64 (dv ts k n)) [diceB ts (k + 1), diceL ts] := by
  refine FC.b mix Try.func30 ?_
  refine ⟨by kernel_rfl, ?_⟩
  refine bselD (fun h => ?_) (fun h => ?_)
  · have h' : ts.length ≤ k := by omega
    refine ⟨congrArg (int .i64) ?_, congrArg some ?_, rfl, trivial⟩
    · simp [dv, h', mMod]
    · simp [Nat.min_eq_right h', Nat.min_eq_right (Nat.le_succ_of_le h')]
  · have h' : k < ts.length := by omega
    have e : min k ts.length = k := Nat.min_eq_left (by omega)
    have e2 : min (k + 1) ts.length = k + 1 := Nat.min_eq_left (by omega)
    have w1 : IntKind.i64.wrap ((k : Int) + 1) = (k : Int) + 1 := wrap64_in (by omega) (by omega)
    have w2 : IntKind.i64.wrap ((k : Int) + 1 - 1) = (k : Int) := by rw [wrap64_in (by omega) (by omega)]; omega
    skip
    refine ⟨⟨?_, ?_⟩, ?_, ?_⟩
    · rw [e, w1, w2]; omega
    · rw [e, w1, w2]; omega
    · rw [e, w1, w2]; omega
    refine FC.use (mod_fc (ts.getD k 0) n hn) [] (congrArg (fun x => [int .i64 (ts.getD x 0), int .i64 n]) ?_) rfl trivial rfl rfl trivial ?_
    · rw [e, w1, w2]; simp
    refine ⟨by kernel_rfl, ?_⟩
    refine ⟨congrArg (int .i64) ?_, congrArg some ?_, rfl, trivial⟩
    · rfl
    · rw [e, w1, e2]; rfl
end Go.Sx.T1
namespace Go.Sx.T1
open Go.Proofs
set_option maxRecDepth 10000 in
theorem light_fc (ts : List Int) : FC Try.prog 8 [.o (.c (.s 0 0 ts.length 1))] [diceL ts] (boo (decide (ts.length ≤ 400))) [diceL ts] := by
  refine FC.b mix Try.func8 ?_
  exact ⟨congrArg boo (show decide ((ts.length : Int) ≤ 400) = decide (ts.length ≤ 400) by rw [Bool.eq_iff_iff]; simp; omega), rfl, trivial⟩
set_option maxRecDepth 10000 in
theorem roll_fc (ts : List Int) : FC Try.prog 10 [.o (.c (.s 0 0 ts.length 1))] [diceL ts] (.o (.c (.p 1 0 0))) [diceL ts, some ⟨.box [.s 0 0 ts.length 1, .v (.int .i64 0)], true⟩] := by
  refine FC.b mix Try.func10 ?_
  exact ⟨rfl, rfl, rfl, trivial⟩
theorem mMod_bd {n m : Int} (h : 1 ≤ m) : 0 ≤ mMod n m ∧ mMod n m < m := by
  unfold mMod
  rw [if_neg (by omega)]
  exact ⟨Int.emod_nonneg n (by omega), Int.emod_lt_of_pos n (by omega)⟩
theorem dv_bd (ts : List Int) (k : Nat) {n : Int} (h : 1 ≤ n) : 0 ≤ dv ts k n ∧ dv ts k n < n := mMod_bd h

theorem next_x (ts : List Int) (k : Nat) (n : Int) (hn : n < 9223372036854775808) (hl : ts.length ≤ 400) :
    ∃ v, FC Try.prog 30 [.o (.c (.p 0 0 0)), int .i64 n] [diceB ts k, diceL ts] (int .i64 v) [diceB ts (k + 1), diceL ts] ∧ v = dv ts k n := ⟨_, next_fc ts k n hn hl, rfl⟩
def u8s (xs : List Int) (wr : Bool) : Option Blk := some ⟨.ints .u8 xs, wr⟩
def i64s (xs : List Int) (wr : Bool) : Option Blk := some ⟨.ints .i64 xs, wr⟩
theorem newI (sz : Nat) {k : IntKind} (h : sz = 1) : Bk.fits (.ints k []) sz ∧ Bk.need (.ints k []) = 0 := ⟨.inr ⟨h, Nat.le_refl 1, fun _ h => absurd h (Nat.not_lt_zero _)⟩, rfl⟩
end Go.Sx.T1
namespace Go.Sx.T1
open Go.Proofs
structure S6 where
  a : Int
  b : Int
  c : Int
  d : Int
  e : Int
  f : Int
def S6.get (s : S6) : Nat → Int
  | 0 => s.a
  | 1 => s.b
  | 2 => s.c
  | 3 => s.d
  | 4 => s.e
  | _ => s.f
def s6C (s : S6) : List C := [.v (.int .i64 s.a), .v (.int .i64 s.b), .v (.int .i64 s.c), .v (.int .i64 s.d), .v (.int .i64 s.e), .v (.int .i64 s.f)]
def s6S (s : S6) : SV := .o (.a (s6C s))
def sumTo (s : S6) : Nat → Int
  | 0 => 0
  | i + 1 => sumTo s i + s.get i
def ShV (s : S6) : Prop := (∀ j, j < 6 → 0 ≤ s.get j ∧ s.get j ≤ 12) ∧ sumTo s 6 ≤ 12
theorem sumTo_bd {s : S6} : ∀ i, (∀ j, j < i → 0 ≤ s.get j ∧ s.get j ≤ 12) → 0 ≤ sumTo s i ∧ sumTo s i ≤ 12 * i
  | 0, _ => by simp [sumTo]
  | i + 1, h => by
    have h1 := sumTo_bd i fun j hj => h j (by omega)
    have h2 := h i (by omega)
    simp only [sumTo]
    omega
set_option maxHeartbeats 3200000 in
set_option maxRecDepth 10000 in
theorem widths_fc (s : S6) : FC Try.prog 44 [s6S s] [] (s6S s) [] := by
  refine FC.one (FC.r mix Try.func44 ?_)
  exact ⟨(), trivial, .id rfl trivial⟩
set_option maxHeartbeats 3200000 in
set_option maxRecDepth 10000 in
theorem bits_fc (s : S6) : FC Try.prog 46 [s6S s] [] (s6S s) [] := by
  refine FC.one (FC.r mix Try.func46 ?_)
  exact ⟨(), trivial, .id rfl trivial⟩
theorem below6 {i : Nat} (h : i < 6) : i = 0 ∨ i = 1 ∨ i = 2 ∨ i = 3 ∨ i = 4 ∨ i = 5 := by omega
set_option maxHeartbeats 3200000 in
set_option maxRecDepth 10000 in
theorem pvalid_fc (s : S6) : ∃ b : Bool, FC Try.prog 43 [s6S s] [] (boo b) [] ∧ (b = true ↔ ShV s) := by
  refine FC.rj mix Try.func43 ?_
  refine FC.u (widths_fc s) [] ?_
  refine ALoop.go (X := Nat) (fun i => i ≤ 6 ∧ ∀ j, j < i → 0 ≤ s.get j ∧ s.get j ≤ 12) (fun i => 6 - i) [7] [] (fun i => [(3, int .i64 (sumTo s i)), (8, int .i64 i)])
    (fun _ => []) 0 ⟨Nat.zero_le _, fun j h => absurd h (Nat.not_lt_zero _)⟩ ⟨rfl, rfl, trivial⟩ trivial ?_
  rintro i ⟨hi, ha⟩
  dsimp only [headF, headM]
  refine bselD (fun h => ?_) (fun h => ?_)
  · have h' : i < 6 := by have : (i : Int) < 6 := h; omega
    have wi : IntKind.i64.wrap ((i : Int) + 1) = ((i + 1 : Nat) : Int) := wrap64_in (by omega) (by omega)
    have bad : (0 ≤ s.get i ∧ s.get i ≤ 12 → False) → (false = true ↔ ShV s) := fun hb => ⟨fun h => (by cases h), fun v => (hb (v.1 i h')).elim⟩
    have bd := sumTo_bd i ha
    have nxt : 0 ≤ s.get i ∧ s.get i ≤ 12 → (∀ j, j < i + 1 → 0 ≤ s.get j ∧ s.get j ≤ 12) ∧ IntKind.i64.wrap (sumTo s i + s.get i) = sumTo s (i + 1) := fun h => by
      refine ⟨fun j hj => ?_, wrap64_in (by omega) (by omega)⟩
      rcases Nat.lt_or_ge j i with h' | h'
      · exact ha j h'
      · obtain rfl : j = i := by omega
        exact h
    repeat refine AJoin.plain ?_
    rcases below6 h' with rfl | rfl | rfl | rfl | rfl | rfl <;>
    · refine And.intro ⟨by decide, by decide⟩ ?_
      refine bselD (fun c1 => ?_) (fun c1 => bselD (fun c2 => ?_) (fun c2 => ?_))
      · exact ⟨false, bad fun h => by have c1' := c1; exact absurd h.1 (Int.not_le.2 c1'), .id rfl trivial⟩
      · exact ⟨false, bad fun h => by have c2' := c2; exact absurd c2' (Int.not_lt.2 h.2), .id rfl trivial⟩
      · obtain ⟨n1, n2⟩ := nxt ⟨Int.not_lt.1 c1, Int.not_lt.1 c2⟩
        exact ⟨_, ⟨⟨by decide, n1⟩, by decide⟩, .id ⟨congrArg (int .i64) n2, congrArg (int .i64) wi, trivial⟩ rfl trivial rfl⟩
  · obtain rfl : i = 6 := by have : ¬ (i : Int) < 6 := h; omega
    refine ⟨decide (sumTo s 6 ≤ 12), ?_, .id rfl trivial⟩
    show decide (sumTo s 6 ≤ 12) = true ↔ ShV s
    rw [decide_eq_true_iff]
    exact ⟨fun h => ⟨ha, h⟩, fun v => v.2⟩
end Go.Sx.T1
namespace Go.Sx.T1
open Go.Proofs
def u64s (xs : List Int) (wr : Bool) : Option Blk := some ⟨.ints .u64 xs, wr⟩
structure MapR where
  s : S6
  M : List Int
  lo : Int
  hi : Int
def mC (m : MapR) (n : Nat) : List C := [.v (.int .i64 m.s.a), .v (.int .i64 m.s.b), .v (.int .i64 m.s.c), .v (.int .i64 m.s.d), .v (.int .i64 m.s.e), .v (.int .i64 m.s.f), .s n 0 m.M.length 1, .v (.int .i64 m.lo), .v (.int .i64 m.hi)]
def mS (m : MapR) (n : Nat) : SV := .o (.a (mC m n))
set_option maxHeartbeats 3200000 in
set_option maxRecDepth 10000 in
theorem rvalid_fc (s : S6) : ∃ b : Bool, FC Try.prog 39 [s6S s] [] (boo b) [] ∧ (b = true ↔ ShV s) := by
  refine FC.rj mix Try.func39 ?_
  refine FC.u (bits_fc s) [] ?_
  refine ALoop.go (X := Nat) (fun i => i ≤ 6 ∧ ∀ j, j < i → 0 ≤ s.get j ∧ s.get j ≤ 12) (fun i => 6 - i) [3] [1] (fun i => [(4, int .i64 (sumTo s i)), (5, int .i64 i)])
    (fun _ => []) 0 ⟨Nat.zero_le _, fun j h => absurd h (Nat.not_lt_zero _)⟩ ⟨rfl, rfl, trivial⟩ trivial ?_
  rintro i ⟨hi, ha⟩
  dsimp only [headF, headM]
  refine bselD (fun h => ?_) (fun h => ?_)
  · have h' : i < 6 := by have : (i : Int) < 6 := h; omega
    have wi : IntKind.i64.wrap ((i : Int) + 1) = ((i + 1 : Nat) : Int) := wrap64_in (by omega) (by omega)
    have bad : (0 ≤ s.get i ∧ s.get i ≤ 12 → False) → (false = true ↔ ShV s) := fun hb => ⟨fun h => (by cases h), fun v => (hb (v.1 i h')).elim⟩
    have bd := sumTo_bd i ha
    have nxt : 0 ≤ s.get i ∧ s.get i ≤ 12 → (∀ j, j < i + 1 → 0 ≤ s.get j ∧ s.get j ≤ 12) ∧ IntKind.i64.wrap (sumTo s i + s.get i) = sumTo s (i + 1) := fun h => by
      refine ⟨fun j hj => ?_, wrap64_in (by omega) (by omega)⟩
      rcases Nat.lt_or_ge j i with h' | h'
      · exact ha j h'
      · obtain rfl : j = i := by omega
        exact h
    repeat refine AJoin.plain ?_
    rcases below6 h' with rfl | rfl | rfl | rfl | rfl | rfl <;>
    · refine And.intro ⟨by decide, by decide⟩ ?_
      refine bselD (fun c1 => ?_) (fun c1 => ?_)
      · exact ⟨false, bad fun h => by have c1' := c1; exact absurd h.1 (Int.not_le.2 c1'), .id rfl trivial⟩
      · refine And.intro ⟨by decide, by decide⟩ ?_
        refine bselD (fun c2 => ?_) (fun c2 => ?_)
        · exact ⟨false, bad fun h => by have c2' := c2; exact absurd c2' (Int.not_lt.2 h.2), .id rfl trivial⟩
        · repeat refine AJoin.plain ?_
          refine And.intro ⟨by decide, by decide⟩ ?_
          obtain ⟨n1, n2⟩ := nxt ⟨Int.not_lt.1 c1, Int.not_lt.1 c2⟩
          exact ⟨_, ⟨⟨by decide, n1⟩, by decide⟩, .id ⟨congrArg (int .i64) n2, congrArg (int .i64) wi, trivial⟩ rfl trivial rfl⟩
  · obtain rfl : i = 6 := by have : ¬ (i : Int) < 6 := h; omega
    refine ⟨decide (sumTo s 6 ≤ 12), ?_, .id rfl trivial⟩
    show decide (sumTo s 6 ≤ 12) = true ↔ ShV s
    rw [decide_eq_true_iff]
    exact ⟨fun h => ⟨ha, h⟩, fun v => v.2⟩
def LimV (m : MapR) : Prop := 0 ≤ m.lo ∧ m.lo ≤ 1048576 ∧ 0 ≤ m.hi ∧ m.hi ≤ 1048576
end Go.Sx.T1
namespace Go.Sx.T1
open Go.Proofs
set_option maxHeartbeats 3200000 in
set_option maxRecDepth 10000 in
theorem numbers_fc (s : S6) : FC Try.prog 45 [s6S s] [] (s6S s) [] := by
  refine FC.one (FC.r mix Try.func45 ?_)
  repeat (first | refine And.intro (by kernel_rfl) ?_ | refine And.intro (by decide) ?_)
  exact ⟨(), trivial, .id rfl trivial⟩
def shB (s : S6) : Bool := ((List.range 6).all fun j => decide (0 ≤ s.get j) && decide (s.get j ≤ 12)) && decide (sumTo s 6 ≤ 12)
theorem shB_iff {s : S6} : shB s = true ↔ ShV s := by
  simp only [shB, Bool.and_eq_true, List.all_eq_true, List.mem_range, decide_eq_true_eq]
  exact Iff.rfl
theorem pvalid_is (s : S6) : FC Try.prog 43 [s6S s] [] (boo (shB s)) [] := by
  obtain ⟨b, h, e⟩ := pvalid_fc s
  have : b = shB s := by rw [Bool.eq_iff_iff, e, shB_iff]
  rw [← this]; exact h
def wN (s : S6) (i : Nat) : Nat := (s.get i).toNat
theorem pow_small {n : Nat} (h : n ≤ 12) : 1 ≤ 2 ^ n ∧ 2 ^ n ≤ 4096 := ⟨Nat.one_le_two_pow, Nat.pow_le_pow_right (n := 2) (by omega) h⟩
theorem toNI {p : Nat} (h : p ≤ 64) : min (p : Int).toNat IntKind.i64.bits = p := by rw [Int.toNat_natCast]; exact Nat.min_eq_left h
theorem shrI (x : Nat) {k : Nat} (hk : k ≤ 64) : (x : Int).fdiv (2 ^ min (k : Int).toNat IntKind.i64.bits) = ((x / 2 ^ k : Nat) : Int) := by
  rw [toNI hk]; exact fdiv_nat x k
def zero6 : S6 := ⟨0, 0, 0, 0, 0, 0⟩
theorem wN_is {s : S6} (h : ShV s) {i : Nat} (hi : i < 6) : s.get i = ((wN s i : Nat) : Int) ∧ wN s i ≤ 12 := by
  have := h.1 i hi
  unfold wN
  omega
theorem pow_i64 (b : Nat) (hb : b ≤ 12) : IntKind.i64.wrap (1 * 2 ^ min (IntKind.u64.wrap (b : Int)).toNat IntKind.i64.bits) = ((2 ^ b : Nat) : Int) ∧ 2 ^ b ≤ 4096 ∧ 1 ≤ 2 ^ b := by
  have : ∀ j : Fin 13, IntKind.i64.wrap (1 * 2 ^ min (j.val : Int).toNat IntKind.i64.bits) = ((2 ^ j.val : Nat) : Int) ∧ 2 ^ j.val ≤ 4096 ∧ 1 ≤ 2 ^ j.val := by decide +kernel
  rw [show IntKind.u64.wrap (b : Int) = b from wrapU64_in (by omega) (by omega)]
  exact this ⟨b, by omega⟩
def vpB (s p : S6) : Bool := shB s && (List.range 6).all fun j => decide (0 ≤ p.get j) && decide (p.get j < ((2 ^ wN s j : Nat) : Int))
theorem vpB_iff {s p : S6} : vpB s p = true ↔ ShV s ∧ ∀ j, j < 6 → 0 ≤ p.get j ∧ p.get j < ((2 ^ wN s j : Nat) : Int) := by
  simp only [vpB, Bool.and_eq_true, shB_iff, List.all_eq_true, List.mem_range, decide_eq_true_eq]
/-- no bit beyond -/
theorem fdiv_zero {x : Int} {w : Nat} (hx : 0 ≤ x) (hw : w ≤ 12) : x.fdiv (2 ^ min ((w : Nat) : Int).toNat IntKind.i64.bits) = 0 ↔ x < ((2 ^ w : Nat) : Int) := by
  obtain ⟨n, rfl⟩ : ∃ n : Nat, x = n := ⟨x.toNat, by omega⟩
  have hp := Nat.two_pow_pos w
  rw [shrI n (by omega)]
  constructor
  · intro h
    have : n / 2 ^ w = 0 := by omega
    have := (Nat.div_eq_zero_iff_lt hp).1 this
    exact Int.ofNat_lt.2 this
  · intro h
    have : n < 2 ^ w := Int.ofNat_lt.1 h
    rw [Nat.div_eq_of_lt this]; rfl
set_option maxHeartbeats 3200000 in
set_option maxRecDepth 10000 in
theorem validPlace_fc (s p : S6) : FC Try.prog 38 [s6S s, s6S p] [] (boo (vpB s p)) [] := by
  refine FC.one (FC.rj mix Try.func38 ?_)
  repeat (first | refine And.intro (by kernel_rfl) ?_ | refine And.intro (by decide) ?_)
  refine FC.u (pvalid_is s) [] ?_
  refine bselNot (bsel_intro (fun h1 => ?_) (fun h1 => ?_))
  rotate_left
  · repeat (first | refine And.intro (by kernel_rfl) ?_ | refine And.intro (by decide) ?_)
    exact ⟨(), trivial, .id (congrArg boo (by rw [vpB, h1]; rfl)) trivial⟩
  have hv := shB_iff.1 h1
  repeat refine AJoin.plain ?_
  refine FC.u (widths_fc s) [] ?_
  repeat refine AJoin.plain ?_
  refine FC.u (numbers_fc p) [] ?_
  refine ALoop.go (X := Nat) (fun i => i ≤ 6 ∧ ∀ j, j < i → 0 ≤ p.get j ∧ p.get j < ((2 ^ wN s j : Nat) : Int)) (fun i => 6 - i) [5, 14] [2] (fun i => [(15, int .i64 i)]) (fun _ => []) 0 ⟨Nat.zero_le _, fun j h => by omega⟩ ⟨rfl, trivial⟩ trivial ?_
  rintro i ⟨hi, ha⟩
  dsimp only [headF, headM]
  refine bselD (fun h => ?_) (fun h => ?_)
  · have h' : i < 6 := by omega
    have wi : IntKind.i64.wrap ((i : Int) + 1) = ((i + 1 : Nat) : Int) := wrap64_in (by omega) (by omega)
    obtain ⟨ge, gle⟩ := wN_is hv h'
    have g0 : 0 ≤ s.get i := by omega
    have fz : 0 ≤ p.get i → ((p.get i).fdiv (2 ^ min (s.get i).toNat IntKind.i64.bits) = 0 ↔ p.get i < ((2 ^ wN s i : Nat) : Int)) := fun h0 => by rw [ge]; exact fdiv_zero h0 gle
    have bad : ¬ (0 ≤ p.get i ∧ p.get i < ((2 ^ wN s i : Nat) : Int)) → vpB s p = false := fun hb => by
      cases hvp : vpB s p with
      | false => rfl
      | true => exact absurd ((vpB_iff.1 hvp).2 i h') hb
    have nxt : 0 ≤ p.get i ∧ p.get i < ((2 ^ wN s i : Nat) : Int) → i + 1 ≤ 6 ∧ ∀ j, j < i + 1 → 0 ≤ p.get j ∧ p.get j < ((2 ^ wN s j : Nat) : Int) := fun hb => ⟨h', fun j hj => by
      rcases Nat.lt_or_ge j i with h1 | h1
      · exact ha j h1
      · obtain rfl : j = i := by omega
        exact hb⟩
    repeat refine AJoin.plain ?_
    rcases below6 h' with rfl | rfl | rfl | rfl | rfl | rfl <;>
    · refine And.intro ⟨by decide, by decide⟩ ?_
      refine bselD (fun c1 => ?_) (fun c1 => ?_)
      · repeat (first | refine And.intro (by kernel_rfl) ?_ | refine And.intro (by decide) ?_)
        exact ⟨(), trivial, .id (congrArg boo (bad fun hb => absurd hb.1 (Int.not_le.2 c1)).symm) trivial⟩
      refine And.intro ⟨by decide, by decide⟩ ?_
      refine And.intro g0 ?_
      refine bselN (fun c2 => ?_) (fun c2 => ?_)
      · repeat (first | refine And.intro (by kernel_rfl) ?_ | refine And.intro (by decide) ?_)
        exact ⟨(), trivial, .id (congrArg boo (bad fun hb => c2 ((fz hb.1).2 hb.2)).symm) trivial⟩
      · repeat refine AJoin.plain ?_
        exact ⟨_, ⟨nxt ⟨Int.not_lt.1 c1, (fz (Int.not_lt.1 c1)).1 c2⟩, by decide⟩, .id ⟨congrArg (int .i64) wi, trivial⟩ rfl trivial rfl⟩
  · obtain rfl : i = 6 := by omega
    repeat (first | refine And.intro (by kernel_rfl) ?_ | refine And.intro (by decide) ?_)
    exact ⟨(), trivial, .id (congrArg boo (vpB_iff.2 ⟨hv, ha⟩).symm) trivial⟩
theorem rvalid_is (s : S6) : FC Try.prog 39 [s6S s] [] (boo (shB s)) [] := by
  obtain ⟨b, h, e⟩ := rvalid_fc s
  have : b = shB s := by rw [Bool.eq_iff_iff, e, shB_iff]
  rw [← this]; exact h
set_option maxHeartbeats 3200000 in
set_option maxRecDepth 10000 in
theorem rnumbers_fc (s : S6) : FC Try.prog 47 [s6S s] [] (s6S s) [] := by
  refine FC.one (FC.r mix Try.func47 ?_)
  repeat (first | refine And.intro (by kernel_rfl) ?_ | refine And.intro (by decide) ?_)
  exact ⟨(), trivial, .id rfl trivial⟩
theorem wid_pow {s : S6} (hv : ShV s) {i : Nat} (hi : i < 6) : IntKind.i64.wrap (1 * 2 ^ min (IntKind.u64.wrap (s.get i)).toNat IntKind.i64.bits) = ((2 ^ wN s i : Nat) : Int) ∧ 0 ≤ IntKind.u64.wrap (s.get i) := by
  obtain ⟨ge, gle⟩ := wN_is hv hi
  rw [ge]
  refine ⟨(pow_i64 (wN s i) gle).1, ?_⟩
  rw [wrapU64_in (by omega) (by omega)]; omega
set_option maxHeartbeats 3200000 in
set_option maxRecDepth 10000 in
theorem rvalidPlace_fc (s p : S6) : FC Try.prog 40 [s6S s, s6S p] [] (boo (vpB s p)) [] := by
  refine FC.one (FC.rj mix Try.func40 ?_)
  repeat (first | refine And.intro (by kernel_rfl) ?_ | refine And.intro (by decide) ?_)
  refine FC.u (rvalid_is s) [] ?_
  refine bselNot (bsel_intro (fun h1 => ?_) (fun h1 => ?_))
  rotate_left
  · repeat (first | refine And.intro (by kernel_rfl) ?_ | refine And.intro (by decide) ?_)
    exact ⟨(), trivial, .id (congrArg boo (by rw [vpB, h1]; rfl)) trivial⟩
  have hv := shB_iff.1 h1
  repeat refine AJoin.plain ?_
  refine FC.u (bits_fc s) [] ?_
  repeat refine AJoin.plain ?_
  refine FC.u (rnumbers_fc p) [] ?_
  repeat (first | refine And.intro (by kernel_rfl) ?_ | refine And.intro (by decide) ?_)
  refine ALoop.go (X := Nat) (fun i => i ≤ 6 ∧ ∀ j, j < i → 0 ≤ p.get j ∧ p.get j < ((2 ^ wN s j : Nat) : Int)) (fun i => 6 - i) [5, 6] [2, 3] (fun i => [(7, int .i64 i)]) (fun _ => []) 0 ⟨Nat.zero_le _, fun j h => by omega⟩ ⟨rfl, trivial⟩ trivial ?_
  rintro i ⟨hi, ha⟩
  dsimp only [headF, headM]
  refine bselD (fun h => ?_) (fun h => ?_)
  · have h' : i < 6 := by omega
    have wi : IntKind.i64.wrap ((i : Int) + 1) = ((i + 1 : Nat) : Int) := wrap64_in (by omega) (by omega)
    obtain ⟨wp, wu⟩ := wid_pow hv h'
    have bad : ¬ (0 ≤ p.get i ∧ p.get i < ((2 ^ wN s i : Nat) : Int)) → vpB s p = false := fun hb => by
      cases hvp : vpB s p with
      | false => rfl
      | true => exact absurd ((vpB_iff.1 hvp).2 i h') hb
    have nxt : 0 ≤ p.get i ∧ p.get i < ((2 ^ wN s i : Nat) : Int) → i + 1 ≤ 6 ∧ ∀ j, j < i + 1 → 0 ≤ p.get j ∧ p.get j < ((2 ^ wN s j : Nat) : Int) := fun hb => ⟨h', fun j hj => by
      rcases Nat.lt_or_ge j i with h1 | h1
      · exact ha j h1
      · obtain rfl : j = i := by omega
        exact hb⟩
    repeat refine AJoin.plain ?_
    rcases below6 h' with rfl | rfl | rfl | rfl | rfl | rfl <;>
    · refine And.intro ⟨by decide, by decide⟩ ?_
      refine bselD (fun c1 => ?_) (fun c1 => ?_)
      · repeat (first | refine And.intro (by kernel_rfl) ?_ | refine And.intro (by decide) ?_)
        exact ⟨(), trivial, .id (congrArg boo (bad fun hb => absurd hb.1 (Int.not_le.2 c1)).symm) trivial⟩
      refine And.intro ⟨by decide, by decide⟩ ?_
      refine And.intro ⟨by decide, by decide⟩ ?_
      refine And.intro wu ?_
      repeat (first | refine And.intro (by kernel_rfl) ?_ | refine And.intro (by decide) ?_)
      refine bselD (fun c2 => ?_) (fun c2 => ?_)
      · repeat (first | refine And.intro (by kernel_rfl) ?_ | refine And.intro (by decide) ?_)
        exact ⟨(), trivial, .id (congrArg boo (bad fun hb => absurd (wp ▸ c2) (Int.not_le.2 hb.2)).symm) trivial⟩
      · repeat refine AJoin.plain ?_
        exact ⟨_, ⟨nxt ⟨Int.not_lt.1 c1, Int.not_le.1 (wp ▸ c2)⟩, by decide⟩, .id ⟨congrArg (int .i64) wi, trivial⟩ rfl trivial rfl⟩
  · obtain rfl : i = 6 := by omega
    repeat (first | refine And.intro (by kernel_rfl) ?_ | refine And.intro (by decide) ?_)
    exact ⟨(), trivial, .id (congrArg boo (vpB_iff.2 ⟨hv, ha⟩).symm) trivial⟩
structure PN where
  p : S6
  k : Nat
set_option maxHeartbeats 3200000 in
set_option maxRecDepth 10000 in
theorem mkPlace_fc (ts : List Int) (k : Nat) (s : S6) (hl : ts.length ≤ 400) (hv : ShV s) :
    ∃ x : PN, FC Try.prog 20 [.o (.c (.p 0 0 0)), s6S s] [diceB ts k, diceL ts] (s6S x.p) [diceB ts x.k, diceL ts] ∧ True := by
  have W : ∀ i, i < 6 → IntKind.i64.wrap (1 * 2 ^ min (IntKind.u64.wrap (s.get i)).toNat IntKind.i64.bits) = ((2 ^ wN s i : Nat) : Int) ∧ 0 ≤ IntKind.u64.wrap (s.get i) ∧ 1 ≤ 2 ^ wN s i ∧ 2 ^ wN s i ≤ 4096 := fun i hi => by
    obtain ⟨ge, gle⟩ := wN_is hv hi
    have := pow_small gle
    refine ⟨?_, ?_, this.1, this.2⟩
    · rw [ge]; exact (pow_i64 (wN s i) gle).1
    · rw [ge, wrapU64_in (by omega) (by omega)]; omega
  refine FC.rj mix Try.func20 ?_
  obtain ⟨a0, b0, c0, d0⟩ := W 0 (by omega)
  repeat (first | refine And.intro (by kernel_rfl) ?_ | refine And.intro (by decide) ?_)
  refine And.intro b0 ?_
  conv => whnf
  rw [show IntKind.i64.wrap (1 * 2 ^ min (IntKind.u64.wrap s.a).toNat IntKind.i64.bits) = ((2 ^ wN s 0 : Nat) : Int) from a0]
  refine FC.x (next_x ts k ((2 ^ wN s 0 : Nat) : Int) (by omega) hl) [0, 1] (fun x0 _ => ?_)
  obtain ⟨a1, b1, c1, d1⟩ := W 1 (by omega)
  repeat (first | refine And.intro (by kernel_rfl) ?_ | refine And.intro (by decide) ?_)
  refine And.intro b1 ?_
  conv => whnf
  rw [show IntKind.i64.wrap (1 * 2 ^ min (IntKind.u64.wrap s.b).toNat IntKind.i64.bits) = ((2 ^ wN s 1 : Nat) : Int) from a1]
  refine FC.x (next_x ts (k + 1) ((2 ^ wN s 1 : Nat) : Int) (by omega) hl) [0, 1] (fun x1 _ => ?_)
  obtain ⟨a2, b2, c2, d2⟩ := W 2 (by omega)
  repeat (first | refine And.intro (by kernel_rfl) ?_ | refine And.intro (by decide) ?_)
  refine And.intro b2 ?_
  conv => whnf
  rw [show IntKind.i64.wrap (1 * 2 ^ min (IntKind.u64.wrap s.c).toNat IntKind.i64.bits) = ((2 ^ wN s 2 : Nat) : Int) from a2]
  refine FC.x (next_x ts (k + 1 + 1) ((2 ^ wN s 2 : Nat) : Int) (by omega) hl) [0, 1] (fun x2 _ => ?_)
  obtain ⟨a3, b3, c3, d3⟩ := W 3 (by omega)
  repeat (first | refine And.intro (by kernel_rfl) ?_ | refine And.intro (by decide) ?_)
  refine And.intro b3 ?_
  conv => whnf
  rw [show IntKind.i64.wrap (1 * 2 ^ min (IntKind.u64.wrap s.d).toNat IntKind.i64.bits) = ((2 ^ wN s 3 : Nat) : Int) from a3]
  refine FC.x (next_x ts (k + 1 + 1 + 1) ((2 ^ wN s 3 : Nat) : Int) (by omega) hl) [0, 1] (fun x3 _ => ?_)
  obtain ⟨a4, b4, c4, d4⟩ := W 4 (by omega)
  repeat (first | refine And.intro (by kernel_rfl) ?_ | refine And.intro (by decide) ?_)
  refine And.intro b4 ?_
  conv => whnf
  rw [show IntKind.i64.wrap (1 * 2 ^ min (IntKind.u64.wrap s.e).toNat IntKind.i64.bits) = ((2 ^ wN s 4 : Nat) : Int) from a4]
  refine FC.x (next_x ts (k + 1 + 1 + 1 + 1) ((2 ^ wN s 4 : Nat) : Int) (by omega) hl) [0, 1] (fun x4 _ => ?_)
  obtain ⟨a5, b5, c5, d5⟩ := W 5 (by omega)
  repeat (first | refine And.intro (by kernel_rfl) ?_ | refine And.intro (by decide) ?_)
  refine And.intro b5 ?_
  conv => whnf
  rw [show IntKind.i64.wrap (1 * 2 ^ min (IntKind.u64.wrap s.f).toNat IntKind.i64.bits) = ((2 ^ wN s 5 : Nat) : Int) from a5]
  refine FC.x (next_x ts (k + 1 + 1 + 1 + 1 + 1) ((2 ^ wN s 5 : Nat) : Int) (by omega) hl) [0, 1] (fun x5 _ => ?_)
  repeat (first | refine And.intro (by kernel_rfl) ?_ | refine And.intro (by decide) ?_)
  exact ⟨⟨⟨x0, x1, x2, x3, x4, x5⟩, k + 1 + 1 + 1 + 1 + 1 + 1⟩, trivial, .id rfl ⟨.inl rfl, .inl rfl, trivial⟩⟩
end Go.Sx.T1
namespace Go.Sx.T1
open Go.Proofs
/-- a sighting -/
structure Sn where
  p : S6
  chip : Int
  time : Int
def snC (x : Sn) : List C := [.v (.int .i64 x.p.a), .v (.int .i64 x.p.b), .v (.int .i64 x.p.c), .v (.int .i64 x.p.d), .v (.int .i64 x.p.e), .v (.int .i64 x.p.f), .v (.int .i64 x.chip), .v (.int .i64 x.time)]
def snS (x : Sn) : SV := .o (.a (snC x))
/-- the part of a place that a kind compares -/
def whP (kind : Int) (p : S6) : S6 :=
  if kind = 1 then p else if kind = 2 then ⟨p.a, p.b, p.c, p.d, p.e, 0⟩ else if kind = 3 then ⟨p.a, p.b, p.c, p.d, 0, p.f⟩ else if kind = 4 then ⟨p.a, p.b, p.c, p.d, 0, 0⟩ else
  if kind = 5 then ⟨p.a, p.b, p.c, 0, 0, 0⟩ else if kind = 6 then ⟨p.a, p.b, 0, 0, 0, 0⟩ else zero6
def whB (kind : Int) : Bool := decide (1 ≤ kind) && decide (kind ≤ 6)
def whS (kind : Int) (p : S6) : SV := .t [.a (s6C (whP kind p)), .c (.v (.bool (whB kind)))]
set_option maxHeartbeats 3200000 in
set_option maxRecDepth 10000 in
theorem where_fc (kind : Int) (p : S6) : FC Try.prog 31 [int .i64 kind, s6S p] [] (whS kind p) [] := by
  refine FC.one (FC.r mix Try.func31 ?_)
  repeat (first | refine And.intro (by kernel_rfl) ?_ | refine And.intro (by decide) ?_)
  have fin : ∀ (q : S6) (b : Bool), whP kind p = q → whB kind = b → (SV.t [.a (s6C q), .c (.v (.bool b))]) = whS kind p := fun q b h1 h2 => by rw [whS, h1, h2]
  refine bselE (fun h => ?_) (fun h1 => ?_)
  · subst h
    repeat (first | refine And.intro (by kernel_rfl) ?_ | refine And.intro (by decide) ?_)
    exact ⟨(), trivial, .id (fin p true rfl rfl) trivial⟩
  refine bselE (fun h => ?_) (fun h2 => ?_)
  · subst h
    repeat (first | refine And.intro (by kernel_rfl) ?_ | refine And.intro (by decide) ?_)
    exact ⟨(), trivial, .id (fin ⟨p.a, p.b, p.c, p.d, p.e, 0⟩ true rfl rfl) trivial⟩
  refine bselE (fun h => ?_) (fun h3 => ?_)
  · subst h
    repeat (first | refine And.intro (by kernel_rfl) ?_ | refine And.intro (by decide) ?_)
    exact ⟨(), trivial, .id (fin ⟨p.a, p.b, p.c, p.d, 0, p.f⟩ true rfl rfl) trivial⟩
  refine bselE (fun h => ?_) (fun h4 => ?_)
  · subst h
    repeat (first | refine And.intro (by kernel_rfl) ?_ | refine And.intro (by decide) ?_)
    exact ⟨(), trivial, .id (fin ⟨p.a, p.b, p.c, p.d, 0, 0⟩ true rfl rfl) trivial⟩
  refine bselE (fun h => ?_) (fun h5 => ?_)
  · subst h
    repeat (first | refine And.intro (by kernel_rfl) ?_ | refine And.intro (by decide) ?_)
    exact ⟨(), trivial, .id (fin ⟨p.a, p.b, p.c, 0, 0, 0⟩ true rfl rfl) trivial⟩
  refine bselE (fun h => ?_) (fun h6 => ?_)
  · subst h
    repeat (first | refine And.intro (by kernel_rfl) ?_ | refine And.intro (by decide) ?_)
    exact ⟨(), trivial, .id (fin ⟨p.a, p.b, 0, 0, 0, 0⟩ true rfl rfl) trivial⟩
  · repeat (first | refine And.intro (by kernel_rfl) ?_ | refine And.intro (by decide) ?_)
    refine ⟨(), trivial, .id (fin zero6 false ?_ ?_) trivial⟩
    · simp [whP, h1, h2, h3, h4, h5, h6]
    · simp only [whB, Bool.and_eq_false_iff, decide_eq_false_iff_not]; omega
/-- the key of a sighting's part: 7 numbers -/
def keyL (kind : Int) (x : Sn) : List Int := [(whP kind x.p).a, (whP kind x.p).b, (whP kind x.p).c, (whP kind x.p).d, (whP kind x.p).e, (whP kind x.p).f, x.chip]
def keyC (l : List Int) : List C := [.v (.int .i64 (l.getD 0 0)), .v (.int .i64 (l.getD 1 0)), .v (.int .i64 (l.getD 2 0)), .v (.int .i64 (l.getD 3 0)), .v (.int .i64 (l.getD 4 0)), .v (.int .i64 (l.getD 5 0)), .v (.int .i64 (l.getD 6 0))]
set_option maxHeartbeats 3200000 in
set_option maxRecDepth 10000 in
theorem at_fc (kind : Int) (x : Sn) : FC Try.prog 32 [int .i64 kind, snS x] [] (.o (.a (keyC (keyL kind x)))) [] := by
  refine FC.one (FC.r mix Try.func32 ?_)
  repeat (first | refine And.intro (by kernel_rfl) ?_ | refine And.intro (by decide) ?_)
  refine FC.u (where_fc kind x.p) [] ?_
  repeat (first | refine And.intro (by kernel_rfl) ?_ | refine And.intro (by decide) ?_)
  exact ⟨(), trivial, .id rfl trivial⟩
/-- in the same part -/
def smB (kind : Int) (x y : Sn) : Bool := whB kind && decide (keyL kind x = keyL kind y)
theorem key_eq (k k' : Int) (x y : Sn) : decide (keyL k x = keyL k' y) = ((whP k x.p).a == (whP k' y.p).a && ((whP k x.p).b == (whP k' y.p).b && ((whP k x.p).c == (whP k' y.p).c && ((whP k x.p).d == (whP k' y.p).d && ((whP k x.p).e == (whP k' y.p).e && ((whP k x.p).f == (whP k' y.p).f && true))))) && (x.chip == y.chip && true)) := by
  rw [Bool.eq_iff_iff]
  simp [keyL, and_assoc]
set_option maxHeartbeats 3200000 in
set_option maxRecDepth 10000 in
theorem same_fc (kind : Int) (x y : Sn) : FC Try.prog 14 [int .i64 kind, snS x, snS y] [] (boo (smB kind x y)) [] := by
  refine FC.one (FC.r mix Try.func14 ?_)
  repeat (first | refine And.intro (by kernel_rfl) ?_ | refine And.intro (by decide) ?_)
  refine FC.u (where_fc kind x.p) [] ?_
  repeat (first | refine And.intro (by kernel_rfl) ?_ | refine And.intro (by decide) ?_)
  refine bsel_intro (fun h => ?_) (fun h => ?_)
  · refine FC.u (at_fc kind x) [] ?_
    refine FC.u (at_fc kind y) [] ?_
    repeat (first | refine And.intro (by kernel_rfl) ?_ | refine And.intro (by decide) ?_)
    refine ⟨(), trivial, .id (congrArg boo ?_) trivial⟩
    rw [smB, key_eq, h]
    rfl
  · repeat (first | refine And.intro (by kernel_rfl) ?_ | refine And.intro (by decide) ?_)
    exact ⟨(), trivial, .id (congrArg boo (by rw [smB, h]; rfl)) trivial⟩
end Go.Sx.T1
namespace Go.Sx.T1
open Go.Proofs
theorem kinds {k : Int} (h : whB k = true) : k = 1 ∨ k = 2 ∨ k = 3 ∨ k = 4 ∨ k = 5 ∨ k = 6 := by
  simp only [whB, Bool.and_eq_true, decide_eq_true_eq] at h
  omega
set_option maxHeartbeats 3200000 in
set_option maxRecDepth 10000 in
theorem part1_fc (p : S6) : FC Try.prog 42 [int .i64 1, s6S p] [] (s6S (whP 1 p)) [] := by
  refine FC.one (FC.r mix Try.func42 ?_)
  repeat (first | refine And.intro (by kernel_rfl) ?_ | refine And.intro (by decide) ?_)
  exact ⟨(), trivial, .id rfl trivial⟩
set_option maxHeartbeats 3200000 in
set_option maxRecDepth 10000 in
theorem part2_fc (p : S6) : FC Try.prog 42 [int .i64 2, s6S p] [] (s6S (whP 2 p)) [] := by
  refine FC.one (FC.r mix Try.func42 ?_)
  repeat (first | refine And.intro (by kernel_rfl) ?_ | refine And.intro (by decide) ?_)
  exact ⟨(), trivial, .id rfl trivial⟩
set_option maxHeartbeats 3200000 in
set_option maxRecDepth 10000 in
theorem part3_fc (p : S6) : FC Try.prog 42 [int .i64 3, s6S p] [] (s6S (whP 3 p)) [] := by
  refine FC.one (FC.r mix Try.func42 ?_)
  repeat (first | refine And.intro (by kernel_rfl) ?_ | refine And.intro (by decide) ?_)
  exact ⟨(), trivial, .id rfl trivial⟩
set_option maxHeartbeats 3200000 in
set_option maxRecDepth 10000 in
theorem part4_fc (p : S6) : FC Try.prog 42 [int .i64 4, s6S p] [] (s6S (whP 4 p)) [] := by
  refine FC.one (FC.r mix Try.func42 ?_)
  repeat (first | refine And.intro (by kernel_rfl) ?_ | refine And.intro (by decide) ?_)
  exact ⟨(), trivial, .id rfl trivial⟩
set_option maxHeartbeats 3200000 in
set_option maxRecDepth 10000 in
theorem part5_fc (p : S6) : FC Try.prog 42 [int .i64 5, s6S p] [] (s6S (whP 5 p)) [] := by
  refine FC.one (FC.r mix Try.func42 ?_)
  repeat (first | refine And.intro (by kernel_rfl) ?_ | refine And.intro (by decide) ?_)
  exact ⟨(), trivial, .id rfl trivial⟩
set_option maxHeartbeats 3200000 in
set_option maxRecDepth 10000 in
theorem part6_fc (p : S6) : FC Try.prog 42 [int .i64 6, s6S p] [] (s6S (whP 6 p)) [] := by
  refine FC.one (FC.r mix Try.func42 ?_)
  repeat (first | refine And.intro (by kernel_rfl) ?_ | refine And.intro (by decide) ?_)
  exact ⟨(), trivial, .id rfl trivial⟩
theorem part_fc (k : Int) (p : S6) (h : whB k = true) : FC Try.prog 42 [int .i64 k, s6S p] [] (s6S (whP k p)) [] := by
  rcases kinds h with rfl | rfl | rfl | rfl | rfl | rfl
  · exact part1_fc p
  · exact part2_fc p
  · exact part3_fc p
  · exact part4_fc p
  · exact part5_fc p
  · exact part6_fc p
set_option maxHeartbeats 3200000 in
set_option maxRecDepth 10000 in
theorem rsame_fc (kind : Int) (x y : Sn) : FC Try.prog 29 [int .i64 kind, snS x, snS y] [] (boo (smB kind x y)) [] := by
  refine FC.one (FC.r mix Try.func29 ?_)
  repeat (first | refine And.intro (by kernel_rfl) ?_ | refine And.intro (by decide) ?_)
  have no : whB kind = false → boo false = boo (smB kind x y) := fun h => congrArg boo (by rw [smB, h]; rfl)
  refine bselD (fun h1 => ?_) (fun h1 => ?_)
  rotate_left
  · repeat (first | refine And.intro (by kernel_rfl) ?_ | refine And.intro (by decide) ?_)
    exact ⟨(), trivial, .id (no (by simp only [whB, Bool.and_eq_false_iff, decide_eq_false_iff_not]; omega)) trivial⟩
  refine bselD (fun h2 => ?_) (fun h2 => ?_)
  rotate_left
  · repeat (first | refine And.intro (by kernel_rfl) ?_ | refine And.intro (by decide) ?_)
    exact ⟨(), trivial, .id (no (by simp only [whB, Bool.and_eq_false_iff, decide_eq_false_iff_not]; omega)) trivial⟩
  have hk : whB kind = true := by simp only [whB, Bool.and_eq_true, decide_eq_true_eq]; omega
  refine bselE (fun h3 => ?_) (fun h3 => ?_)
  rotate_left
  · repeat (first | refine And.intro (by kernel_rfl) ?_ | refine And.intro (by decide) ?_)
    refine ⟨(), trivial, .id (congrArg boo ?_) trivial⟩
    have : keyL kind x ≠ keyL kind y := fun h => h3 (by injection h; simp_all)
    simp [smB, this]
  refine FC.u (part_fc kind x.p hk) [] ?_
  refine FC.u (part_fc kind y.p hk) [] ?_
  repeat (first | refine And.intro (by kernel_rfl) ?_ | refine And.intro (by decide) ?_)
  refine ⟨(), trivial, .id (congrArg boo ?_) trivial⟩
  rw [smB, key_eq, hk, h3]
  simp
end Go.Sx.T1
namespace Go.Sx.T1
open Go.Proofs
set_option maxHeartbeats 3200000 in
set_option maxRecDepth 10000 in
theorem shape_fc (ts : List Int) (k : Nat) (hl : ts.length ≤ 400) : ∃ x : PN, FC Try.prog 12 [.o (.c (.p 0 0 0))] [diceB ts k, diceL ts] (s6S x.p) [diceB ts x.k, diceL ts] ∧ ShV x.p := by
  refine FC.r mix Try.func12 ?_
  have d0 := dv_bd ts k (n := 2) (by omega)
  refine FC.x (next_x ts k 2 (by omega) hl) [0, 1] (fun x0 e0 => ?_)
  have d1 := dv_bd ts (k + 1) (n := 2) (by omega)
  refine FC.x (next_x ts (k + 1) 2 (by omega) hl) [0, 1] (fun x1 e1 => ?_)
  have d2 := dv_bd ts (k + 1 + 1) (n := 2) (by omega)
  refine FC.x (next_x ts (k + 1 + 1) 2 (by omega) hl) [0, 1] (fun x2 e2 => ?_)
  have d3 := dv_bd ts (k + 1 + 1 + 1) (n := 2) (by omega)
  refine FC.x (next_x ts (k + 1 + 1 + 1) 2 (by omega) hl) [0, 1] (fun x3 e3 => ?_)
  repeat (first | refine And.intro (by kernel_rfl) ?_ | refine And.intro (by decide) ?_)
  have d4 := dv_bd ts (k + 1 + 1 + 1 + 1) (n := 3) (by omega)
  refine FC.x (next_x ts (k + 1 + 1 + 1 + 1) 3 (by omega) hl) [0, 1] (fun x4 e4 => ?_)
  repeat (first | refine And.intro (by kernel_rfl) ?_ | refine And.intro (by decide) ?_)
  rw [← e0] at d0
  rw [← e1] at d1
  rw [← e2] at d2
  rw [← e3] at d3
  rw [← e4] at d4
  have w3 : IntKind.i64.wrap (1 + IntKind.i64.wrap (x3.tdiv 2)) = 1 := by
    have : x3 = 0 ∨ x3 = 1 := by omega
    rcases this with rfl | rfl <;> rfl
  have w4 : IntKind.i64.wrap (1 + x4) = 1 + x4 := wrap64_in (by omega) (by omega)
  refine ⟨⟨⟨x0, x1, x2, 1, 1 + x4, 2⟩, k + 1 + 1 + 1 + 1 + 1⟩, ⟨fun j hj => ?_, ?_⟩, .id ?_ ⟨.inl rfl, .inl rfl, trivial⟩⟩
  · rcases below6 hj with rfl | rfl | rfl | rfl | rfl | rfl <;> simp only [S6.get] <;> omega
  · simp only [sumTo, S6.get]; omega
  · rw [w3, w4]; rfl
structure SnK where
  x : Sn
  k : Nat
set_option maxHeartbeats 3200000 in
set_option maxRecDepth 10000 in
theorem seen_fc (ts : List Int) (k : Nat) (s : S6) (x : Sn) (hl : ts.length ≤ 400) (hv : ShV s) : ∃ y : SnK, FC Try.prog 17 [.o (.c (.p 0 0 0)), s6S s, snS x] [diceB ts k, diceL ts] (snS y.x) [diceB ts y.k, diceL ts] ∧ True := by
  refine FC.r mix Try.func17 ?_
  refine FC.x (next_x ts k 64 (by omega) hl) [0, 1] (fun x0 _ => ?_)
  refine FC.x (next_x ts (k + 1) 64 (by omega) hl) [0, 1] (fun x1 _ => ?_)
  refine FC.x (next_x ts (k + 1 + 1) 64 (by omega) hl) [0, 1] (fun x2 _ => ?_)
  refine FC.x (next_x ts (k + 1 + 1 + 1) 64 (by omega) hl) [0, 1] (fun x3 _ => ?_)
  refine FC.x (next_x ts (k + 1 + 1 + 1 + 1) 64 (by omega) hl) [0, 1] (fun x4 _ => ?_)
  refine FC.x (next_x ts (k + 1 + 1 + 1 + 1 + 1) 64 (by omega) hl) [0, 1] (fun x5 _ => ?_)
  repeat (first | refine And.intro (by kernel_rfl) ?_ | refine And.intro (by decide) ?_)
  refine FC.u (roll_fc [x0, x1, x2, x3, x4, x5]) [5] ?_
  refine FC.x (mkPlace_fc [x0, x1, x2, x3, x4, x5] 0 s (Nat.le_of_ble_eq_true rfl) hv) [6, 5] (fun q _ => ?_)
  repeat (first | refine And.intro (by kernel_rfl) ?_ | refine And.intro (by decide) ?_)
  refine FC.x (next_x ts (k + 1 + 1 + 1 + 1 + 1 + 1) 6 (by omega) hl) [0, 1] (fun v _ => ?_)
  refine bselE (fun h => ?_) (fun h => ?_)
  · refine FC.x (next_x ts (k + 1 + 1 + 1 + 1 + 1 + 1 + 1) 100 (by omega) hl) [0, 1] (fun z _ => ?_)
    repeat (first | refine And.intro (by kernel_rfl) ?_ | refine And.intro (by decide) ?_)
    exact ⟨⟨⟨x.p, x.chip, z⟩, (k + 1 + 1 + 1 + 1 + 1 + 1 + 1 + 1)⟩, trivial, .id rfl ⟨.inl rfl, .inl rfl, trivial⟩⟩
  refine bselE (fun h => ?_) (fun h => ?_)
  · repeat (first | refine And.intro (by kernel_rfl) ?_ | refine And.intro (by decide) ?_)
    refine FC.x (next_x ts (k + 1 + 1 + 1 + 1 + 1 + 1 + 1) 100 (by omega) hl) [0, 1] (fun z _ => ?_)
    repeat (first | refine And.intro (by kernel_rfl) ?_ | refine And.intro (by decide) ?_)
    exact ⟨⟨⟨⟨x.p.a, x.p.b, x.p.c, x.p.d, x.p.e, q.p.f⟩, x.chip, z⟩, (k + 1 + 1 + 1 + 1 + 1 + 1 + 1 + 1)⟩, trivial, .id rfl ⟨.inl rfl, .inl rfl, trivial⟩⟩
  refine bselE (fun h => ?_) (fun h => ?_)
  · repeat (first | refine And.intro (by kernel_rfl) ?_ | refine And.intro (by decide) ?_)
    refine FC.x (next_x ts (k + 1 + 1 + 1 + 1 + 1 + 1 + 1) 100 (by omega) hl) [0, 1] (fun z _ => ?_)
    repeat (first | refine And.intro (by kernel_rfl) ?_ | refine And.intro (by decide) ?_)
    exact ⟨⟨⟨⟨x.p.a, x.p.b, x.p.c, x.p.d, q.p.e, x.p.f⟩, x.chip, z⟩, (k + 1 + 1 + 1 + 1 + 1 + 1 + 1 + 1)⟩, trivial, .id rfl ⟨.inl rfl, .inl rfl, trivial⟩⟩
  refine bselE (fun h => ?_) (fun h => ?_)
  · repeat (first | refine And.intro (by kernel_rfl) ?_ | refine And.intro (by decide) ?_)
    refine FC.x (next_x ts (k + 1 + 1 + 1 + 1 + 1 + 1 + 1) 100 (by omega) hl) [0, 1] (fun z _ => ?_)
    repeat (first | refine And.intro (by kernel_rfl) ?_ | refine And.intro (by decide) ?_)
    exact ⟨⟨⟨⟨x.p.a, x.p.b, q.p.c, q.p.d, q.p.e, q.p.f⟩, x.chip, z⟩, (k + 1 + 1 + 1 + 1 + 1 + 1 + 1 + 1)⟩, trivial, .id rfl ⟨.inl rfl, .inl rfl, trivial⟩⟩
  refine bselE (fun h => ?_) (fun h => ?_)
  · repeat (first | refine And.intro (by kernel_rfl) ?_ | refine And.intro (by decide) ?_)
    refine FC.x (next_x ts (k + 1 + 1 + 1 + 1 + 1 + 1 + 1) 100 (by omega) hl) [0, 1] (fun z _ => ?_)
    repeat (first | refine And.intro (by kernel_rfl) ?_ | refine And.intro (by decide) ?_)
    exact ⟨⟨⟨⟨x.p.a, x.p.b, x.p.c, q.p.d, q.p.e, q.p.f⟩, x.chip, z⟩, (k + 1 + 1 + 1 + 1 + 1 + 1 + 1 + 1)⟩, trivial, .id rfl ⟨.inl rfl, .inl rfl, trivial⟩⟩
  · refine FC.x (next_x ts (k + 1 + 1 + 1 + 1 + 1 + 1 + 1) 4 (by omega) hl) [0, 1] (fun y _ => ?_)
    refine FC.x (next_x ts (k + 1 + 1 + 1 + 1 + 1 + 1 + 1 + 1) 100 (by omega) hl) [0, 1] (fun z _ => ?_)
    repeat (first | refine And.intro (by kernel_rfl) ?_ | refine And.intro (by decide) ?_)
    exact ⟨⟨⟨q.p, y, z⟩, (k + 1 + 1 + 1 + 1 + 1 + 1 + 1 + 1 + 1)⟩, trivial, .id rfl ⟨.inl rfl, .inl rfl, trivial⟩⟩
end Go.Sx.T1
namespace Go.Sx.T1
open Go.Proofs
/-- some sightings, in a block -/
def sn0 : Sn := ⟨zero6, 0, 0⟩
def snK (xs : List Sn) : Bk := .rows 8 xs.length fun i => snC (xs.getD i sn0)
def snB (xs : List Sn) (wr : Bool) : Option Blk := some ⟨snK xs, wr⟩
theorem newSn (sz : Nat) (h : sz = 8) : Bk.fits (snK []) sz ∧ Bk.need (snK []) = 0 := ⟨.inr ⟨h, (by decide), fun _ h => absurd h (Nat.not_lt_zero _)⟩, rfl⟩
theorem sn_app {l : List Sn} {y : Sn} {f : Nat → List C} (h1 : ∀ i, i < l.length → f i = snC (l.getD (0 + i) sn0)) (h2 : f l.length = snC y) {w w' : Bool} (hw : w' = true → w = true) : leB (some ⟨.rows 8 (l.length + 1) f, w⟩) ⟨snK (l ++ [y]), w'⟩ := by
  refine leB.rows (by simp) (fun i hi => ?_) hw
  rw [List.length_append, List.length_singleton] at hi
  by_cases h : i < l.length
  · rw [h1 i h, Nat.zero_add]
    simp [List.getD, List.getElem?_append_left h]
  · obtain rfl : i = l.length := by omega
    rw [h2]
    simp [List.getD]
theorem sn_len (l : List Sn) (y : Sn) (n : Nat) : SV.o (.c (.s n 0 (l.length + 1) 8)) = SV.o (.c (.s n 0 (l ++ [y]).length 8)) := by rw [List.length_append]; rfl
structure SnsK where
  l : List Sn
  k : Nat
def seensM (ts : List Int) (y : SnsK) : Mem := [diceB ts y.k, diceL ts, snB y.l true]
structure SX where
  r : Nat
  l : List Sn
  k : Nat
set_option maxHeartbeats 3200000 in
set_option maxRecDepth 10000 in
theorem seens_fc (ts : List Int) (k : Nat) (s : S6) (most : Nat) (hl : ts.length ≤ 400) (hv : ShV s) (hm : most ≤ 14) : ∃ y : SnsK, FC Try.prog 11 [.o (.c (.p 0 0 0)), s6S s, int .i64 (most : Int)] [diceB ts k, diceL ts] (.o (.c (.s 2 0 y.l.length 8))) (seensM ts y) ∧ y.l.length ≤ most := by
  refine FC.rj mix Try.func11 ?_
  refine FC.x (next_x ts k 3 (by omega) hl) [0, 1] (fun c _ => ?_)
  repeat (first | refine And.intro (by kernel_rfl) ?_ | refine And.intro (by decide) ?_)
  refine FC.x (seen_fc ts (k + 1) s ⟨zero6, c, 0⟩ hl hv) [0, 1] (fun y0 _ => ?_)
  repeat (first | refine And.intro (by kernel_rfl) ?_ | refine And.intro (by decide) ?_)
  have w : IntKind.i64.wrap ((most : Int) + 1) = (most : Int) + 1 := wrap64_in (by omega) (by omega)
  conv => whnf
  rw [w]
  have dm := dv_bd ts y0.k (n := (most : Int) + 1) (by omega)
  refine FC.x (next_x ts y0.k ((most : Int) + 1) (by omega) hl) [0, 1] (fun d ed => ?_)
  rw [← ed] at dm
  clear ed
  obtain ⟨d, rfl⟩ : ∃ m : Nat, d = m := ⟨d.toNat, by omega⟩
  repeat (first | refine And.intro (by kernel_rfl) ?_ | refine And.intro (by decide) ?_)
  refine ALoop.goN (X := SX) (fun x => x.l.length + x.r ≤ most) (fun x => x.r) [0, 4, 8] [1, 2, 3] (fun x => [(7, .o (.c (.s 4 0 x.l.length 8))), (9, int .i64 (x.r : Int))]) (fun x => [(0, ⟨.box [.s 1 0 ts.length 1, .v (.int .i64 (min x.k ts.length : Nat))], true⟩), (4, ⟨snK x.l, true⟩)]) ⟨d, [], y0.k + 1⟩ 5
    (by show 0 + d ≤ most; omega) (isAt.go [(4, .new 8)] ⟨rfl, rfl, trivial⟩ ⟨.inl rfl, newSn 8 rfl, trivial⟩) ?_
  rintro ⟨r, l, k2⟩ hinv
  replace hinv : l.length + r ≤ most := hinv
  dsimp only [headF, headM]
  refine bselD (fun h => ?_) (fun h => ?_)
  · have wr : IntKind.i64.wrap ((r : Int) - 1) = ((r - 1 : Nat) : Int) := by rw [wrap64_in (by omega) (by omega)]; omega
    repeat refine AJoin.plain ?_
    refine bselD (fun h2 => ?_) (fun h2 => ?_)
    · have h2' : 0 < l.length := by have : (l.length : Int) > 0 := h2; omega
      have dl := dv_bd ts k2 (n := (l.length : Int)) (by omega)
      refine FC.x (next_x ts k2 (l.length : Int) (by omega) hl) [0, 1] (fun v ev => ?_)
      rw [← ev] at dl
      clear ev
      obtain ⟨v, rfl⟩ : ∃ m : Nat, v = m := ⟨v.toNat, by omega⟩
      refine And.intro ⟨by omega, by omega⟩ ?_
      refine And.intro (by show 0 + v < l.length; omega) ?_
      repeat (first | refine And.intro (by kernel_rfl) ?_ | refine And.intro (by decide) ?_)
      refine FC.x (seen_fc ts (k2 + 1) s (l.getD (0 + v) sn0) hl hv) [0, 1] (fun y _ => ?_)
      refine And.intro ⟨by show 0 + l.length ≤ l.length; omega, fun _ _ => rfl⟩ ?_
      refine And.intro ⟨Nat.le_of_ble_eq_true rfl, fun i hi => (by obtain rfl : i = 0 := Nat.lt_one_iff.1 hi; rfl)⟩ ?_
      refine And.intro (by show l.length + 1 ≤ 4294967296; omega) ?_
      repeat (first | refine And.intro (by kernel_rfl) ?_ | refine And.intro (by decide) ?_)
      exact ⟨⟨r - 1, l ++ [y.x], y.k⟩, ⟨by show (l ++ [y.x]).length + (r - 1) ≤ most; rw [List.length_append, List.length_singleton]; omega, by show r - 1 < r; omega⟩, isAt.go [(4, .to 7)] ⟨sn_len l y.x 7, congrArg (int .i64) wr, trivial⟩ ⟨.inl rfl, sn_app (fun i hi => if_pos hi) ((if_neg (Nat.lt_irrefl _)).trans (by rw [Nat.sub_self]; rfl)) id, trivial⟩⟩
    · refine FC.x (seen_fc ts k2 s y0.x hl hv) [0, 1] (fun y _ => ?_)
      refine And.intro ⟨by show 0 + l.length ≤ l.length; omega, fun _ _ => rfl⟩ ?_
      refine And.intro ⟨Nat.le_of_ble_eq_true rfl, fun i hi => (by obtain rfl : i = 0 := Nat.lt_one_iff.1 hi; rfl)⟩ ?_
      refine And.intro (by show l.length + 1 ≤ 4294967296; omega) ?_
      repeat (first | refine And.intro (by kernel_rfl) ?_ | refine And.intro (by decide) ?_)
      exact ⟨⟨r - 1, l ++ [y.x], y.k⟩, ⟨by show (l ++ [y.x]).length + (r - 1) ≤ most; rw [List.length_append, List.length_singleton]; omega, by show r - 1 < r; omega⟩, isAt.go [(4, .to 7)] ⟨sn_len l y.x 7, congrArg (int .i64) wr, trivial⟩ ⟨.inl rfl, sn_app (fun i hi => if_pos hi) ((if_neg (Nat.lt_irrefl _)).trans (by rw [Nat.sub_self]; rfl)) id, trivial⟩⟩
  · obtain rfl : r = 0 := by omega
    repeat (first | refine And.intro (by kernel_rfl) ?_ | refine And.intro (by decide) ?_)
    refine ⟨⟨l, k2⟩, by omega, isEnd.go [(2, .to 4)] rfl ⟨.inl rfl, .inl rfl, .inl rfl, trivial⟩⟩
end Go.Sx.T1
namespace Go.Sx.T1
/-! different keys, and the numbers of the places where each stands -/
abbrev Ky := List Int
def dk (ks : List Ky) : List Ky := ks.foldl (fun acc k => if k ∈ acc then acc else acc ++ [k]) []
theorem dk_nil : dk [] = [] := rfl
theorem dk_snoc (ks : List Ky) (k : Ky) : dk (ks ++ [k]) = if k ∈ dk ks then dk ks else dk ks ++ [k] := by
  unfold dk
  rw [List.foldl_append]
  rfl
/-- from the end -/
theorem snoc_ind {α : Type} {P : List α → Prop} (h0 : P []) (h1 : ∀ l x, P l → P (l ++ [x])) : ∀ l, P l := by
  have : ∀ n (l : List α), l.length = n → P l := by
    intro n
    induction n with
    | zero => intro l hl; rw [List.eq_nil_of_length_eq_zero hl]; exact h0
    | succ n ih =>
      intro l hl
      have hne : l ≠ [] := fun e => by rw [e] at hl; cases hl
      rw [← List.dropLast_concat_getLast hne]
      exact h1 _ _ (ih _ (by simp [hl]))
  exact fun l => this _ l rfl
theorem mem_dk : ∀ (ks : List Ky) (k : Ky), k ∈ dk ks ↔ k ∈ ks := by
  refine snoc_ind (by simp [dk_nil]) fun ks x ih k => ?_
  rw [dk_snoc]
  split
  · rename_i h
    rw [ih, List.mem_append, List.mem_singleton]
    exact ⟨.inl, fun h' => h'.elim id fun e => by rw [e]; exact (ih x).1 h⟩
  · rw [List.mem_append, List.mem_append, ih]
theorem dk_nodup : ∀ (ks : List Ky), (dk ks).Nodup := by
  refine snoc_ind (by simp [dk_nil]) fun ks x ih => ?_
  rw [dk_snoc]
  split
  · exact ih
  · rename_i h
    rw [List.nodup_append]
    exact ⟨ih, by simp, fun a ha b hb => by rw [List.mem_singleton] at hb; subst hb; exact fun e => h (e ▸ ha)⟩
theorem dk_len (ks : List Ky) : (dk ks).length ≤ ks.length := by
  revert ks
  refine snoc_ind (by simp [dk_nil]) fun ks x ih => ?_
  rw [dk_snoc]
  split <;> simp <;> omega
theorem nodup_inj {α : Type} {l : List α} (h : l.Nodup) {i j : Nat} (hi : i < l.length) (hj : j < l.length) (e : l[i] = l[j]) : i = j := by
  rw [List.nodup_iff_pairwise_ne, List.pairwise_iff_getElem] at h
  rcases Nat.lt_trichotomy i j with h1 | h1 | h1
  · exact absurd e (h i j hi hj h1)
  · exact h1
  · exact absurd e.symm (h j i hj hi h1)
/-- the places where a key stands -/
def ix (ks : List Ky) (k : Ky) : List Int := ((List.range ks.length).filter fun i => decide (ks.getD i [] = k)).map fun (i : Nat) => (i : Int)
theorem ix_snoc (ks : List Ky) (k' k : Ky) : ix (ks ++ [k']) k = ix ks k ++ (if k' = k then [(ks.length : Int)] else []) := by
  unfold ix
  rw [List.length_append, List.length_singleton, List.range_succ, List.filter_append, List.map_append]
  congr 1
  · congr 1
    refine List.filter_congr fun i hi => ?_
    rw [List.mem_range] at hi
    have : (ks ++ [k']).getD i [] = ks.getD i [] := by simp [List.getD, List.getElem?_append_left hi]
    exact decide_eq_decide.2 (by rw [this])
  · by_cases h : k' = k <;> simp [List.getD, h]
theorem ix_nil {ks : List Ky} {k : Ky} (h : k ∉ ks) : ix ks k = [] := by
  unfold ix
  rw [List.map_eq_nil_iff, List.filter_eq_nil_iff]
  intro i hi
  rw [List.mem_range] at hi
  simp only [decide_eq_true_eq]
  intro e
  refine h ?_
  rw [← e]
  simp [List.getD, hi]
def gr (ks : List Ky) : List (List Int) := (dk ks).map (ix ks)
theorem gr_len (ks : List Ky) : (gr ks).length = (dk ks).length := by simp [gr]
theorem gr_get (ks : List Ky) (j : Nat) (h : j < (dk ks).length) : (gr ks).getD j [] = ix ks ((dk ks)[j]) := by simp [gr, List.getD, h]
theorem gr_nil : gr [] = [] := rfl
theorem gr_old {ks : List Ky} {k : Ky} {j : Nat} (h : (dk ks)[j]? = some k) : gr (ks ++ [k]) = (gr ks).set j ((gr ks).getD j [] ++ [(ks.length : Int)]) := by
  obtain ⟨hj, hk⟩ := List.getElem?_eq_some_iff.1 h
  have hmem : k ∈ dk ks := by rw [← hk]; exact List.getElem_mem hj
  have hd : dk (ks ++ [k]) = dk ks := by rw [dk_snoc, if_pos hmem]
  refine List.ext_getElem (by simp [gr, hd]) fun q h1 h2 => ?_
  have hq : q < (dk ks).length := by rw [gr_len, hd] at h1; exact h1
  have e1 : (gr (ks ++ [k]))[q] = ix (ks ++ [k]) ((dk ks)[q]) := by simp only [gr, List.getElem_map, hd]
  rw [e1, ix_snoc, List.getElem_set]
  by_cases hqj : j = q
  · subst hqj
    rw [if_pos hk.symm, if_pos rfl, gr_get ks j hj]
  · rw [if_neg hqj]
    have : ¬ k = (dk ks)[q] := fun e => hqj (nodup_inj (dk_nodup ks) hj hq (hk.trans e))
    rw [if_neg this, List.append_nil]
    simp [gr]
theorem gr_new {ks : List Ky} {k : Ky} (h : k ∉ dk ks) : gr (ks ++ [k]) = gr ks ++ [[(ks.length : Int)]] := by
  have hk : k ∉ ks := fun e => h ((mem_dk ks k).2 e)
  unfold gr
  rw [dk_snoc, if_neg h, List.map_append]
  congr 1
  · refine List.map_congr_left fun q hq => ?_
    have : ¬ k = q := fun e => h (by rw [e]; exact hq)
    rw [ix_snoc, if_neg this, List.append_nil]
  · simp [ix_snoc, ix_nil hk]
theorem ix_len (ks : List Ky) (k : Ky) : (ix ks k).length ≤ ks.length := by
  unfold ix
  rw [List.length_map]
  exact Nat.le_trans (List.length_filter_le _ _) (by simp)
theorem gr_row (ks : List Ky) (j : Nat) : ((gr ks).getD j []).length ≤ ks.length := by
  by_cases h : j < (dk ks).length
  · rw [gr_get ks j h]; exact ix_len ks _
  · have : (gr ks)[j]? = none := List.getElem?_eq_none (by rw [gr_len]; omega)
    simp [List.getD, this]
theorem ix_mem {ks : List Ky} {k : Ky} {v : Int} (h : v ∈ ix ks k) : ∃ p : Nat, v = p ∧ p < ks.length ∧ ks.getD p [] = k := by
  unfold ix at h
  obtain ⟨p, hp, rfl⟩ := List.mem_map.1 h
  rw [List.mem_filter, List.mem_range, decide_eq_true_eq] at hp
  exact ⟨p, rfl, hp.1, hp.2⟩
theorem mem_ix {ks : List Ky} {k : Ky} {p : Nat} (hp : p < ks.length) (h : ks.getD p [] = k) : (p : Int) ∈ ix ks k :=
  List.mem_map.2 ⟨p, by rw [List.mem_filter, List.mem_range, decide_eq_true_eq]; exact ⟨hp, h⟩, rfl⟩
theorem gr_head {ks : List Ky} {j : Nat} (h : j < (dk ks).length) : ∃ (p : Nat) (r : List Int), (gr ks).getD j [] = (p : Int) :: r ∧ p < ks.length ∧ ks.getD p [] = (dk ks)[j] := by
  rw [gr_get ks j h]
  have hm : (dk ks)[j] ∈ ks := (mem_dk ks _).1 (List.getElem_mem h)
  obtain ⟨q, hq, e⟩ := List.mem_iff_getElem.1 hm
  have h1 := mem_ix (ks := ks) (k := (dk ks)[j]) hq (by simp [List.getD, hq, e])
  cases hc : ix ks (dk ks)[j] with
  | nil => rw [hc] at h1; cases h1
  | cons v r =>
    obtain ⟨p, e1, e2, e3⟩ := ix_mem (ks := ks) (k := (dk ks)[j]) (v := v) (by rw [hc]; exact List.mem_cons_self ..)
    exact ⟨p, r, by rw [e1], e2, e3⟩
/-! the maps -/
def ent : List Ky → Nat → List (List Int × Value)
  | [], _ => []
  | k :: r, a => (k, .int .i64 (a : Int)) :: ent r (a + 1)
theorem ent_len : ∀ (l : List Ky) (a : Nat), (ent l a).length = l.length
  | [], _ => rfl
  | _ :: r, a => congrArg (· + 1) (ent_len r (a + 1))
theorem ent_mem : ∀ {l : List Ky} {a : Nat} {p : List Int × Value}, p ∈ ent l a → p.1 ∈ l
  | k :: r, a, p, h => by
    rcases List.mem_cons.1 h with rfl | h
    · exact List.mem_cons_self ..
    · exact List.mem_cons_of_mem _ (ent_mem h)
  | [], _, _, h => by cases h
theorem ent_find : ∀ {l : List Ky} {a b j : Nat} {k : Ky} {v : Value}, mfind k (ent l a) b = some (j, v) → ∃ q, l[q]? = some k ∧ v = .int .i64 ((a + q : Nat) : Int)
  | [], _, _, _, _, _, h => by cases h
  | k' :: r, a, b, j, k, v, h => by
    unfold ent mfind at h
    split at h
    · rename_i e
      cases h
      exact ⟨0, by rw [← e]; rfl, rfl⟩
    · obtain ⟨q, h1, h2⟩ := ent_find h
      exact ⟨q + 1, h1, by rw [h2, show a + 1 + q = a + (q + 1) by omega]⟩
theorem ent_none : ∀ {l : List Ky} {a b : Nat} {k : Ky}, mfind k (ent l a) b = none → k ∉ l ∧ mput (ent l a) k (.int .i64 ((a + l.length : Nat) : Int)) = ent (l ++ [k]) a
  | [], a, b, k, _ => ⟨by simp, rfl⟩
  | k' :: r, a, b, k, h => by
    unfold ent mfind at h
    split at h
    · cases h
    · rename_i e
      obtain ⟨h1, h2⟩ := ent_none h
      refine ⟨fun hm => ?_, ?_⟩
      · rcases List.mem_cons.1 hm with rfl | hm
        · exact e rfl
        · exact h1 hm
      · rw [show a + (k' :: r).length = a + 1 + r.length by simp only [List.length_cons]; omega]
        show (if (k', Value.int .i64 (a : Int)).1 = k then _ else (k', Value.int .i64 (a : Int)) :: mput (ent r (a + 1)) k _) = (k', Value.int .i64 (a : Int)) :: ent (r ++ [k]) (a + 1)
        rw [if_neg e, h2]
def trs (l : List Ky) : List (List Int × Value) := l.map fun k => (k, .bool true)
theorem trs_len (l : List Ky) : (trs l).length = l.length := by simp [trs]
theorem trs_mem {l : List Ky} {p : List Int × Value} (h : p ∈ trs l) : p.1 ∈ l := by
  obtain ⟨k, hk, rfl⟩ := List.mem_map.1 h
  exact hk
theorem trs_put : ∀ (l : List Ky) (k : Ky), mput (trs l) k (.bool true) = trs (if k ∈ l then l else l ++ [k])
  | [], k => by simp [trs, mput]
  | k' :: r, k => by
    have ih := trs_put r k
    show mput ((k', Value.bool true) :: trs r) k (.bool true) = _
    unfold mput
    by_cases h : k' = k
    · subst h
      simp [trs]
    · have hk : ¬ k = k' := fun e => h e.symm
      rw [if_neg h, ih]
      by_cases hm : k ∈ r <;> simp [trs, hm, hk]
theorem trs_step (ks : List Ky) (k : Ky) : mput (trs (dk ks)) k (.bool true) = trs (dk (ks ++ [k])) := by rw [trs_put, dk_snoc]
/-! the keys of the first sightings -/
theorem take_key {α : Type} (κ : α → Ky) (xs : List α) (d : α) {i : Nat} (h : i < xs.length) : (xs.map κ).take (i + 1) = (xs.map κ).take i ++ [κ (xs.getD i d)] := by
  rw [List.take_succ_eq_append_getElem (by simpa using h)]
  simp [List.getD, h]
end Go.Sx.T1
namespace Go.Sx.T1
open Go.Proofs
def kys (kind : Int) (xs : List Sn) : List Ky := xs.map (keyL kind)
/-- the groups of a kind -/
def gk (kind : Int) (xs : List Sn) : List (List Int) := if whB kind = true then gr (kys kind xs) else []
def dpB (gs : List (List Int)) (wr : Bool) : Option Blk := some ⟨.deep 0 gs none, wr⟩
theorem newD (sz : Nat) : Bk.fits (.deep 0 [] none) sz ∧ Bk.need (.deep 0 [] none) = 0 := ⟨.inl rfl, rfl⟩
theorem take_all (kind : Int) (xs : List Sn) : (kys kind xs).take xs.length = kys kind xs := by
  rw [List.take_of_length_le]; simp [kys]
theorem key_len {kind : Int} {xs : List Sn} {i : Nat} {k : Ky} (h : k ∈ dk ((kys kind xs).take i)) : k.length = 7 := by
  have h1 := List.mem_of_mem_take ((mem_dk _ _).1 h)
  obtain ⟨x, _, rfl⟩ := List.mem_map.1 h1
  rfl
theorem leD {lo : Nat} {rs rs' : List (List Int)} {ov : Option (Nat × C)} {w : Bool} (h : rs = rs') : leB (some ⟨.deep lo rs ov, w⟩) ⟨.deep lo rs' ov, w⟩ := .inl (by rw [h])
theorem leMp {es es' : List (List Int × Value)} {w : Bool} (h : es = es') : leB (some ⟨.map .many es, w⟩) ⟨.map .many es', w⟩ := .inl (by rw [h])
theorem s_len {n a b : Nat} (h : a = b) : SV.o (.c (.s n 0 a 1)) = SV.o (.c (.s n 0 b 1)) := by rw [h]
theorem row_app (g : List Int) (i : Int) : (g.drop 0).take g.length ++ ([i].drop 0).take 1 = g ++ [i] := by simp
def grM (xs : List Sn) (g : List (List Int)) : Mem := [snB xs false, dpB g true]
set_option maxHeartbeats 3200000 in
set_option maxRecDepth 10000 in
theorem groups_fc (kind : Int) (xs : List Sn) (hl : xs.length ≤ 1000) : ∃ g : List (List Int), FC Try.prog 13 [int .i64 kind, .o (.c (.s 0 0 xs.length 8))] [snB xs false] (.o (.c (.s 1 0 g.length 1))) (grM xs g) ∧ g = gk kind xs := by
  refine FC.rj mix Try.func13 ?_
  refine FC.u (where_fc kind zero6) [] ?_
  repeat (first | refine And.intro (by kernel_rfl) ?_ | refine And.intro (by decide) ?_)
  refine bselNot (bsel_intro (fun hw => ?_) (fun hw => ?_))
  rotate_left
  · repeat (first | refine And.intro (by kernel_rfl) ?_ | refine And.intro (by decide) ?_)
    exact ⟨[], by rw [gk, hw]; rfl, isEnd.go [(1, .new 1)] rfl ⟨.inl rfl, newD 1, trivial⟩⟩
  have hg : gk kind xs = gr (kys kind xs) := by rw [gk, if_pos hw]
  repeat (first | refine And.intro (by kernel_rfl) ?_ | refine And.intro (by decide) ?_)
  refine ALoop.goN (X := Nat) (fun i => i ≤ xs.length) (fun i => xs.length - i) [0, 4, 8, 23, 24] [0] (fun i => [(7, .o (.c (.s 3 0 (gr ((kys kind xs).take i)).length 1))), (25, int .i64 (i : Int))])
    (fun i => [(2, ⟨.map .many (ent (dk ((kys kind xs).take i)) 0), true⟩), (3, ⟨.deep 0 (gr ((kys kind xs).take i)) none, true⟩)]) 0 4 (Nat.zero_le _) (isAt.go [(3, .new 1)] ⟨rfl, rfl, trivial⟩ ⟨.inl rfl, newD 1, trivial⟩) ?_
  rintro i hi
  dsimp only [headF, headM]
  refine bselD (fun h => ?_) (fun h => ?_)
  · have h' : i < xs.length := by omega
    have wi : IntKind.i64.wrap ((i : Int) + 1) = ((i + 1 : Nat) : Int) := wrap64_in (by omega) (by omega)
    have hKl : ((kys kind xs).take i).length = i := by simp [kys]; omega
    have hstep : (kys kind xs).take (i + 1) = (kys kind xs).take i ++ [keyL kind (xs.getD i sn0)] := take_key (keyL kind) xs sn0 h'
    generalize hK : (kys kind xs).take i = K at *
    have hdl := dk_len K
    have hgl := gr_len K
    refine And.intro ⟨by omega, h⟩ ?_
    refine And.intro (by show 0 + i < xs.length; omega) ?_
    repeat (first | refine And.intro (by kernel_rfl) ?_ | refine And.intro (by decide) ?_)
    refine FC.u (at_fc kind (xs.getD (0 + i) sn0)) [] ?_
    repeat (first | refine And.intro (by kernel_rfl) ?_ | refine And.intro (by decide) ?_)
    refine And.intro (fun p hp => ?_) ?_
    · rw [← hK] at hp
      exact key_len (ent_mem hp)
    refine lkSel_intro (fun j v hf => ?_) (fun hf => ?_)
    · replace hf : mfind (keyL kind (xs.getD (0 + i) sn0)) (ent (dk K) 0) 0 = some (j, v) := hf
      obtain ⟨q, hq, rfl⟩ : ∃ q : Nat, (dk K)[q]? = some (keyL kind (xs.getD (0 + i) sn0)) ∧ v = .int .i64 (q : Int) := by
        obtain ⟨q, h1, h2⟩ := ent_find hf
        exact ⟨q, h1, by rw [h2, Nat.zero_add]⟩
      rw [Nat.zero_add] at hq
      have hql : q < (gr K).length := by have := (List.getElem?_eq_some_iff.1 hq).1; omega
      have hrow := gr_row K q
      repeat refine AJoin.plain ?_
      refine And.intro ⟨by omega, by show (q : Int) < ((gr K).length : Int); omega⟩ ?_
      refine And.intro ⟨Nat.zero_le _, by show 0 + q < (gr K).length; omega⟩ ?_
      refine And.intro ⟨by show 0 + ((gr K).getD (0 + q) []).length ≤ ((gr K).getD (0 + q) []).length; omega, trivial⟩ ?_
      refine And.intro ⟨Nat.le_of_ble_eq_true rfl, trivial⟩ ?_
      refine And.intro (by show ((gr K).getD (0 + q) []).length + 1 ≤ 4294967296; rw [Nat.zero_add]; omega) ?_
      refine And.intro ⟨by omega, by show (q : Int) < ((gr K).length : Int); omega⟩ ?_
      refine And.intro ⟨by show 0 + q < (gr K).length; omega, rfl⟩ ?_
      repeat (first | refine And.intro (by kernel_rfl) ?_ | refine And.intro (by decide) ?_)
      have hgr := gr_old hq
      rw [← hstep, hKl] at hgr
      have hd : dk ((kys kind xs).take (i + 1)) = dk K := by rw [hstep, dk_snoc, if_pos (List.mem_of_getElem? hq)]
      refine ⟨i + 1, ⟨h', by show xs.length - (i + 1) < xs.length - i; omega⟩, isAt.giv _ (MLe.give 3 8 rfl rfl (by simp)) (.id ⟨s_len (by rw [hgr, List.length_set]), congrArg (int .i64) wi, trivial⟩ rfl ⟨leMp (by rw [hd]), leD ?_, trivial⟩ rfl)⟩
      rw [hgr, ← row_app, Nat.zero_add]
      rfl
    · replace hf : mfind (keyL kind (xs.getD (0 + i) sn0)) (ent (dk K) 0) 0 = none := hf
      obtain ⟨hn, hput⟩ := ent_none hf
      repeat refine AJoin.plain ?_
      repeat (first | refine And.intro (by kernel_rfl) ?_ | refine And.intro (by decide) ?_)
      refine And.intro (fun p hp => ?_) ?_
      · rw [← hK] at hp
        exact key_len (ent_mem hp)
      repeat (first | refine And.intro (by kernel_rfl) ?_ | refine And.intro (by decide) ?_)
      conv => whnf
      refine And.intro ⟨rfl, Nat.zero_le _, by show (gr K).length + 1 ≤ 4294967296; omega⟩ ?_
      refine And.intro ⟨by omega, by show ((gr K).length : Int) < (((gr K).length + 1 : Nat) : Int); omega⟩ ?_
      refine And.intro ⟨Nat.zero_le _, by show 0 + (gr K).length < (gr K ++ [[]]).length; simp⟩ ?_
      have e0 : (gr K ++ [([] : List Int)]).getD (0 + (gr K).length) [] = [] := by simp [List.getD]
      refine And.intro ⟨by show 0 + ((gr K ++ [([] : List Int)]).getD (0 + (gr K).length) []).length ≤ ((gr K ++ [([] : List Int)]).getD (0 + (gr K).length) []).length; omega, trivial⟩ ?_
      refine And.intro ⟨Nat.le_of_ble_eq_true rfl, trivial⟩ ?_
      refine And.intro (by show ((gr K ++ [([] : List Int)]).getD (0 + (gr K).length) []).length + 1 ≤ 4294967296; rw [e0]; decide) ?_
      refine And.intro ⟨by omega, by show ((gr K).length : Int) < (((gr K).length + 1 : Nat) : Int); omega⟩ ?_
      refine And.intro ⟨by show 0 + (gr K).length < (gr K ++ [[]]).length; simp, rfl⟩ ?_
      repeat (first | refine And.intro (by kernel_rfl) ?_ | refine And.intro (by decide) ?_)
      rw [Nat.zero_add] at hn hput
      have hgr := gr_new hn
      rw [← hstep, hKl] at hgr
      have hd : dk ((kys kind xs).take (i + 1)) = dk K ++ [keyL kind (xs.getD i sn0)] := by rw [hstep, dk_snoc, if_neg hn]
      refine ⟨i + 1, ⟨h', by show xs.length - (i + 1) < xs.length - i; omega⟩, isAt.giv _ (MLe.give 7 10 rfl rfl (by simp)) (isAt.go [(3, .to 7)] ⟨s_len (by rw [hgr, List.length_append]; rfl), congrArg (int .i64) wi, trivial⟩ ⟨leMp ?_, leD ?_, trivial⟩)⟩
      · rw [hd, ← hput, Nat.zero_add, Nat.zero_add, ← hgl]; rfl
      · show (gr K ++ [[]]).set (0 + (gr K).length) (((gr K ++ [([] : List Int)]).getD (0 + (gr K).length) []).drop 0 |>.take ((gr K ++ [([] : List Int)]).getD (0 + (gr K).length) []).length |>.append (([(i : Int)].drop 0).take 1)) = _
        rw [hgr, e0, Nat.zero_add]
        simp
  · obtain rfl : i = xs.length := by omega
    repeat (first | refine And.intro (by kernel_rfl) ?_ | refine And.intro (by decide) ?_)
    refine ⟨gk kind xs, rfl, isEnd.go [(1, .to 3)] (by rw [take_all, hg]; rfl) (by rw [take_all, hg]; exact ⟨.inl rfl, .inl rfl, trivial⟩)⟩
end Go.Sx.T1
namespace Go.Sx.T1
open Go.Proofs
theorem set_self (rs : List (List Int)) (j q : Nat) (h : q = j := by rfl) : rs.set q (rs.getD j []) = rs := by
  subst h
  refine List.ext_getElem (by simp) fun i h1 h2 => ?_
  rw [List.getElem_set]
  split
  · rename_i e; subst e; simp [List.getD, h2]
  · rfl
structure RG where
  j : Nat
  f : Bool
  rs : List (List Int)
def rgOk (K : List Ky) (k : Ky) (x : RG) : Prop := x.j ≤ (gr K).length ∧ x.rs.length = (gr K).length ∧ ((x.f = false ∧ x.rs = gr K ∧ ∀ q, q < x.j → (dk K)[q]? ≠ some k) ∨ (x.f = true ∧ x.rs = gr (K ++ [k]) ∧ k ∈ dk K))
set_option maxHeartbeats 3200000 in
set_option maxRecDepth 10000 in
theorem rgroups_fc (kind : Int) (xs : List Sn) (hl : xs.length ≤ 1000) : ∃ g : List (List Int), FC Try.prog 26 [int .i64 kind, .o (.c (.s 0 0 xs.length 8))] [snB xs false] (.o (.c (.s 1 0 g.length 1))) (grM xs g) ∧ g = gk kind xs := by
  refine FC.rj mix Try.func26 ?_
  repeat (first | refine And.intro (by kernel_rfl) ?_ | refine And.intro (by decide) ?_)
  have nil : whB kind = false → ([] : List (List Int)) = gk kind xs := fun h => by rw [gk, h]; rfl
  refine bselD (fun h1 => ?_) (fun h1 => ?_)
  · repeat (first | refine And.intro (by kernel_rfl) ?_ | refine And.intro (by decide) ?_)
    exact ⟨[], nil (by simp only [whB, Bool.and_eq_false_iff, decide_eq_false_iff_not]; omega), isEnd.go [(1, .new 1)] rfl ⟨.inl rfl, newD 1, trivial⟩⟩
  refine bselD (fun h2 => ?_) (fun h2 => ?_)
  · repeat (first | refine And.intro (by kernel_rfl) ?_ | refine And.intro (by decide) ?_)
    exact ⟨[], nil (by simp only [whB, Bool.and_eq_false_iff, decide_eq_false_iff_not]; omega), isEnd.go [(1, .new 1)] rfl ⟨.inl rfl, newD 1, trivial⟩⟩
  have hw : whB kind = true := by simp only [whB, Bool.and_eq_true, decide_eq_true_eq]; omega
  have hg : gk kind xs = gr (kys kind xs) := by rw [gk, if_pos hw]
  repeat (first | refine And.intro (by kernel_rfl) ?_ | refine And.intro (by decide) ?_)
  refine ALoop.goN (X := Nat) (fun i => i ≤ xs.length) (fun i => xs.length - i) [0, 1, 4, 17, 18] [0] (fun i => [(5, .o (.c (.s 1 0 (gr ((kys kind xs).take i)).length 1))), (19, int .i64 (i : Int))])
    (fun i => [(1, ⟨.deep 0 (gr ((kys kind xs).take i)) none, true⟩)]) 0 2 (Nat.zero_le _) (isAt.go [(1, .new 1)] ⟨rfl, rfl, trivial⟩ ⟨newD 1, trivial⟩) ?_
  rintro i hi
  dsimp only [headF, headM]
  refine bselD (fun h => ?_) (fun h => ?_)
  · have h' : i < xs.length := by omega
    have wi : IntKind.i64.wrap ((i : Int) + 1) = ((i + 1 : Nat) : Int) := wrap64_in (by omega) (by omega)
    have hKl : ((kys kind xs).take i).length = i := by simp [kys]; omega
    have hstep : (kys kind xs).take (i + 1) = (kys kind xs).take i ++ [keyL kind (xs.getD i sn0)] := take_key (keyL kind) xs sn0 h'
    have hKp : ∀ p, p < i → ((kys kind xs).take i).getD p [] = keyL kind (xs.getD p sn0) := fun p hp => by
      simp [List.getD, kys, List.getElem?_take_of_lt hp, show p < xs.length by omega]
    generalize hK : (kys kind xs).take i = K at *
    have hdl := dk_len K
    have hgl := gr_len K
    generalize hk : keyL kind (xs.getD i sn0) = k at *
    repeat refine AJoin.plain ?_
    refine And.intro ⟨by omega, h⟩ ?_
    refine And.intro (by show 0 + i < xs.length; omega) ?_
    repeat (first | refine And.intro (by kernel_rfl) ?_ | refine And.intro (by decide) ?_)
    refine ALoop.goN (X := RG) (rgOk K k) (fun x => (gr K).length - x.j) [0, 1, 4, 5, 6, 7, 17, 18, 19, 24, 25] [0, 2] (fun x => [(8, boo x.f), (26, int .i64 (x.j : Int))])
      (fun x => [(1, ⟨.deep 0 x.rs none, true⟩)]) ⟨0, false, gr K⟩ 3 ⟨Nat.zero_le _, rfl, .inl ⟨rfl, rfl, fun q hq => absurd hq (Nat.not_lt_zero _)⟩⟩ (.id ⟨rfl, rfl, trivial⟩ rfl ⟨.inl rfl, trivial⟩ rfl) ?_
    rintro ⟨j, f, rs⟩ ⟨hj, hrl, hx⟩
    dsimp only [headF, headM]
    refine bselD (fun hjl => ?_) (fun hjl => ?_)
    · have hjl' : j < (gr K).length := by omega
      have wj : IntKind.i64.wrap ((j : Int) + 1) = ((j + 1 : Nat) : Int) := wrap64_in (by omega) (by omega)
      replace hrl : rs.length = (gr K).length := hrl
      repeat refine AJoin.plain ?_
      refine And.intro ⟨by omega, hjl⟩ ?_
      refine And.intro ⟨Nat.zero_le _, by show 0 + j < rs.length; omega⟩ ?_
      rcases hx with ⟨hf, hrs, hno⟩ | ⟨hf, hrs, hin⟩
      · replace hf : f = false := hf
        replace hrs : rs = gr K := hrs
        subst hf
        subst hrs
        obtain ⟨p, r, e1, e2, e3⟩ := gr_head (ks := K) (j := j) (by omega)
        have e1' : (gr K).getD (0 + j) [] = (p : Int) :: r := by rw [Nat.zero_add]; exact e1
        have hrow := gr_row K j
        have ev : ((gr K).getD (0 + j) []).getD (0 + 0) 0 = (p : Int) := by rw [e1']; rfl
        have hxp : 0 + (((gr K).getD (0 + j) []).getD (0 + 0) 0).toNat = p := by rw [ev]; omega
        repeat (first | refine And.intro (by kernel_rfl) ?_ | refine And.intro (by decide) ?_)
        refine And.intro ⟨by omega, by show (0 : Int) < (((gr K).getD (0 + j) []).length : Int); rw [e1', List.length_cons]; omega⟩ ?_
        refine And.intro (by show 0 + 0 < ((gr K).getD (0 + j) []).length; rw [e1', List.length_cons]; omega) ?_
        refine And.intro ⟨by show 0 ≤ ((gr K).getD (0 + j) []).getD (0 + 0) 0; omega, by show ((gr K).getD (0 + j) []).getD (0 + 0) 0 < (xs.length : Int); omega⟩ ?_
        refine And.intro (by show 0 + (((gr K).getD (0 + j) []).getD (0 + 0) 0).toNat < xs.length; omega) ?_
        repeat (first | refine And.intro (by kernel_rfl) ?_ | refine And.intro (by decide) ?_)
        refine FC.u (rsame_fc kind (xs.getD (0 + (((gr K).getD (0 + j) []).getD (0 + 0) 0).toNat) sn0) (xs.getD (0 + i) sn0)) [] ?_
        have esm : smB kind (xs.getD (0 + (((gr K).getD (0 + j) []).getD (0 + 0) 0).toNat) sn0) (xs.getD (0 + i) sn0) = decide ((dk K)[j]? = some k) := by
          rw [hxp, Nat.zero_add, smB, hw, ← hKp p (by omega), e3, hk, List.getElem?_eq_getElem (by omega)]
          simp
        repeat (first | refine And.intro (by kernel_rfl) ?_ | refine And.intro (by decide) ?_)
        refine bsel_intro (fun hs => ?_) (fun hs => ?_)
        · rw [esm, decide_eq_true_eq] at hs
          have hgr := gr_old hs
          rw [hKl] at hgr
          refine And.intro ⟨by show 0 + ((gr K).getD (0 + j) []).length ≤ ((gr K).getD (0 + j) []).length; omega, trivial⟩ ?_
          refine And.intro ⟨Nat.le_of_ble_eq_true rfl, trivial⟩ ?_
          refine And.intro (by show ((gr K).getD (0 + j) []).length + 1 ≤ 4294967296; rw [Nat.zero_add]; omega) ?_
          refine And.intro ⟨by omega, hjl⟩ ?_
          refine And.intro ⟨by show 0 + j < (gr K).length; omega, rfl⟩ ?_
          repeat (first | refine And.intro (by kernel_rfl) ?_ | refine And.intro (by decide) ?_)
          refine ⟨⟨j + 1, true, gr (K ++ [k])⟩, ⟨⟨hjl', by show (gr (K ++ [k])).length = _; rw [hgr, List.length_set], .inr ⟨rfl, rfl, List.mem_of_getElem? hs⟩⟩, by show (gr K).length - (j + 1) < (gr K).length - j; omega⟩, isAt.giv _ (MLe.give 1 5 rfl rfl (by simp)) (.id ⟨rfl, congrArg (int .i64) wj, trivial⟩ rfl ⟨leD ?_, trivial⟩ rfl)⟩
          rw [hgr, ← row_app, Nat.zero_add]
          rfl
        · rw [esm, decide_eq_false_iff_not] at hs
          repeat (first | refine And.intro (by kernel_rfl) ?_ | refine And.intro (by decide) ?_)
          refine ⟨⟨j + 1, false, gr K⟩, ⟨⟨hjl', rfl, .inl ⟨rfl, rfl, fun q hq => ?_⟩⟩, by show (gr K).length - (j + 1) < (gr K).length - j; omega⟩, isAt.giv _ (MLe.give 1 3 rfl rfl rfl) (.id ⟨rfl, congrArg (int .i64) wj, trivial⟩ rfl ⟨leD (set_self _ _ _), trivial⟩ rfl)⟩
          rcases Nat.lt_or_ge q j with h1 | h1
          · exact hno q h1
          · obtain rfl : q = j := by have : q < j + 1 := hq; omega
            exact hs
      · replace hf : f = true := hf
        replace hrs : rs = gr (K ++ [k]) := hrs
        subst hf
        repeat (first | refine And.intro (by kernel_rfl) ?_ | refine And.intro (by decide) ?_)
        exact ⟨⟨j + 1, true, rs⟩, ⟨⟨hjl', hrl, .inr ⟨rfl, hrs, hin⟩⟩, by show (gr K).length - (j + 1) < (gr K).length - j; omega⟩, isAt.giv _ (MLe.give 1 3 rfl rfl rfl) (.id ⟨rfl, congrArg (int .i64) wj, trivial⟩ rfl ⟨leD (set_self _ _ _), trivial⟩ rfl)⟩
    · have hjl' : j = (gr K).length := by have : j ≤ (gr K).length := hj; omega
      rcases hx with ⟨hf, hrs, hno⟩ | ⟨hf, hrs, hin⟩
      · replace hf : f = false := hf
        replace hrs : rs = gr K := hrs
        subst hf
        subst hrs
        have hn : k ∉ dk K := fun hm => by
          obtain ⟨q, hq, e⟩ := List.mem_iff_getElem.1 hm
          exact hno q (by show q < j; omega) (by rw [List.getElem?_eq_getElem hq, e])
        have hgr := gr_new hn
        rw [hKl] at hgr
        repeat (first | refine And.intro (by kernel_rfl) ?_ | refine And.intro (by decide) ?_)
        conv => whnf
        refine And.intro ⟨rfl, Nat.zero_le _, by show (gr K).length + 1 ≤ 4294967296; omega⟩ ?_
        repeat (first | refine And.intro (by kernel_rfl) ?_ | refine And.intro (by decide) ?_)
        refine ⟨i + 1, ⟨h', by show xs.length - (i + 1) < xs.length - i; omega⟩, isAt.giv _ (MLe.give 5 3 rfl rfl rfl) (isAt.go [(1, .to 5)] ⟨s_len (by rw [hstep, hgr, List.length_append]; rfl), congrArg (int .i64) wi, trivial⟩ ⟨leD ?_, trivial⟩)⟩
        rw [hstep, hgr]
        simp
      · replace hf : f = true := hf
        replace hrs : rs = gr (K ++ [k]) := hrs
        subst hf
        repeat (first | refine And.intro (by kernel_rfl) ?_ | refine And.intro (by decide) ?_)
        refine ⟨i + 1, ⟨h', by show xs.length - (i + 1) < xs.length - i; omega⟩, .id ⟨s_len (by rw [hstep, ← hrs]; exact hrl.symm), congrArg (int .i64) wi, trivial⟩ rfl ⟨leD (by rw [hstep, hrs]), trivial⟩ rfl⟩
  · obtain rfl : i = xs.length := by omega
    repeat (first | refine And.intro (by kernel_rfl) ?_ | refine And.intro (by decide) ?_)
    refine ⟨gk kind xs, rfl, .id (by rw [take_all, hg]; rfl) (by rw [take_all, hg]; exact ⟨.inl rfl, .inl rfl, trivial⟩)⟩
end Go.Sx.T1
namespace Go.Sx.T1
open Go.Proofs
/-- the first greatest list -/
def lgF (gs : List (List Int)) : List Int := gs.foldl (fun out g => if out.length < g.length then g else out) []
theorem lgF_snoc (gs : List (List Int)) (g : List Int) : lgF (gs ++ [g]) = if (lgF gs).length < g.length then g else lgF gs := by
  unfold lgF
  rw [List.foldl_append]
  rfl
theorem take_row {gs : List (List Int)} {i : Nat} (h : i < gs.length) : gs.take (i + 1) = gs.take i ++ [gs.getD i []] := by
  rw [List.take_succ_eq_append_getElem h]
  simp [List.getD, h]
theorem gk_len (kind : Int) (xs : List Sn) : (gk kind xs).length ≤ xs.length := by
  unfold gk
  split
  · rw [gr_len]
    have := dk_len (kys kind xs)
    simpa [kys] using this
  · exact Nat.zero_le _
def lgM (xs : List Sn) (g : List Int) : Mem := [snB xs false, i64s g true]
set_option maxHeartbeats 3200000 in
set_option maxRecDepth 10000 in
theorem largest_fc (kind : Int) (xs : List Sn) (hl : xs.length ≤ 1000) : ∃ g : List Int, FC Try.prog 19 [int .i64 kind, .o (.c (.s 0 0 xs.length 8))] [snB xs false] (.o (.c (.s 1 0 g.length 1))) (lgM xs g) ∧ g = lgF (gk kind xs) := by
  refine FC.rj mix Try.func19 ?_
  refine FC.x (groups_fc kind xs hl) [0] (fun gs hgs => ?_)
  have hgl := gk_len kind xs
  rw [← hgs] at hgl ⊢
  repeat (first | refine And.intro (by kernel_rfl) ?_ | refine And.intro (by decide) ?_)
  refine ALoop.goN (X := Nat) (fun i => i ≤ gs.length) (fun i => gs.length - i) [4, 10, 11] [0] (fun i => [(5, .o (.c (.s 2 0 (lgF (gs.take i)).length 1))), (12, int .i64 (i : Int))])
    (fun i => [(1, ⟨.deep i gs none, true⟩), (2, ⟨.ints .i64 (lgF (gs.take i)), true⟩)]) 0 3 (Nat.zero_le _) (isAt.go [(2, .new 1)] ⟨rfl, rfl, trivial⟩ ⟨.inl rfl, newI 1 rfl, trivial⟩) ?_
  rintro i hi
  dsimp only [headF, headM]
  refine bselD (fun h => ?_) (fun h => ?_)
  · have h' : i < gs.length := by omega
    have wi : IntKind.i64.wrap ((i : Int) + 1) = ((i + 1 : Nat) : Int) := wrap64_in (by omega) (by omega)
    have hs := take_row h'
    have hlg := lgF_snoc (gs.take i) (gs.getD i [])
    rw [← hs] at hlg
    generalize hB : lgF (gs.take i) = B at *
    repeat refine AJoin.plain ?_
    refine And.intro ⟨by omega, h⟩ ?_
    refine And.intro ⟨by show i ≤ 0 + i; omega, by show 0 + i < gs.length; omega⟩ ?_
    repeat (first | refine And.intro (by kernel_rfl) ?_ | refine And.intro (by decide) ?_)
    refine bselD (fun hc => ?_) (fun hc => ?_)
    · replace hc : ((gs.getD (0 + i) []).length : Int) > (B.length : Int) := hc
      rw [Nat.zero_add] at hc
      rw [if_pos (by omega)] at hlg
      repeat (first | refine And.intro (by kernel_rfl) ?_ | refine And.intro (by decide) ?_)
      exact ⟨i + 1, ⟨h', by show gs.length - (i + 1) < gs.length - i; omega⟩, isAt.giv _ (MLe.fgt 1 (i + 1) rfl (by omega) (fun j c e => by cases e; show 0 + i < i + 1; omega)) (isAt.go [(2, .to 3)] ⟨s_len (by rw [hlg]; show (gs.getD (0 + i) []).length = _; rw [Nat.zero_add]), congrArg (int .i64) wi, trivial⟩ ⟨.inl rfl, leB.ints_eq (by rw [hlg]; show gs.getD (0 + i) [] = _; rw [Nat.zero_add]) id, trivial⟩)⟩
    · replace hc : ¬ ((gs.getD (0 + i) []).length : Int) > (B.length : Int) := hc
      rw [Nat.zero_add] at hc
      rw [if_neg (by omega)] at hlg
      repeat (first | refine And.intro (by kernel_rfl) ?_ | refine And.intro (by decide) ?_)
      exact ⟨i + 1, ⟨h', by show gs.length - (i + 1) < gs.length - i; omega⟩, isAt.giv _ (MLe.fgt 1 (i + 1) rfl (by omega) (fun j c e => by cases e; show 0 + i < i + 1; omega)) (.id ⟨s_len (by rw [hlg]), congrArg (int .i64) wi, trivial⟩ rfl ⟨.inl rfl, leB.ints_eq hlg.symm id, trivial⟩ rfl)⟩
  · obtain rfl : i = gs.length := by omega
    repeat (first | refine And.intro (by kernel_rfl) ?_ | refine And.intro (by decide) ?_)
    exact ⟨lgF gs, rfl, isEnd.go [(1, .to 2)] (by rw [List.take_length]; rfl) (by rw [List.take_length]; exact ⟨.inl rfl, .inl rfl, trivial⟩)⟩
set_option maxHeartbeats 3200000 in
set_option maxRecDepth 10000 in
theorem rlargest_fc (kind : Int) (xs : List Sn) (hl : xs.length ≤ 1000) : ∃ g : List Int, FC Try.prog 28 [int .i64 kind, .o (.c (.s 0 0 xs.length 8))] [snB xs false] (.o (.c (.s 1 0 g.length 1))) (lgM xs g) ∧ g = lgF (gk kind xs) := by
  refine FC.rj mix Try.func28 ?_
  refine FC.x (rgroups_fc kind xs hl) [0] (fun gs hgs => ?_)
  have hgl := gk_len kind xs
  rw [← hgs] at hgl ⊢
  repeat (first | refine And.intro (by kernel_rfl) ?_ | refine And.intro (by decide) ?_)
  refine ALoop.goN (X := Nat) (fun i => i ≤ gs.length) (fun i => gs.length - i) [4, 10, 11] [0] (fun i => [(5, .o (.c (.s 2 0 (lgF (gs.take i)).length 1))), (12, int .i64 (i : Int))])
    (fun i => [(1, ⟨.deep i gs none, true⟩), (2, ⟨.ints .i64 (lgF (gs.take i)), true⟩)]) 0 3 (Nat.zero_le _) (isAt.go [(2, .new 1)] ⟨rfl, rfl, trivial⟩ ⟨.inl rfl, newI 1 rfl, trivial⟩) ?_
  rintro i hi
  dsimp only [headF, headM]
  refine bselD (fun h => ?_) (fun h => ?_)
  · have h' : i < gs.length := by omega
    have wi : IntKind.i64.wrap ((i : Int) + 1) = ((i + 1 : Nat) : Int) := wrap64_in (by omega) (by omega)
    have hs := take_row h'
    have hlg := lgF_snoc (gs.take i) (gs.getD i [])
    rw [← hs] at hlg
    generalize hB : lgF (gs.take i) = B at *
    repeat refine AJoin.plain ?_
    refine And.intro ⟨by omega, h⟩ ?_
    refine And.intro ⟨by show i ≤ 0 + i; omega, by show 0 + i < gs.length; omega⟩ ?_
    repeat (first | refine And.intro (by kernel_rfl) ?_ | refine And.intro (by decide) ?_)
    refine bselD (fun hc => ?_) (fun hc => ?_)
    · replace hc : ((gs.getD (0 + i) []).length : Int) > (B.length : Int) := hc
      rw [Nat.zero_add] at hc
      rw [if_pos (by omega)] at hlg
      repeat (first | refine And.intro (by kernel_rfl) ?_ | refine And.intro (by decide) ?_)
      exact ⟨i + 1, ⟨h', by show gs.length - (i + 1) < gs.length - i; omega⟩, isAt.giv _ (MLe.fgt 1 (i + 1) rfl (by omega) (fun j c e => by cases e; show 0 + i < i + 1; omega)) (isAt.go [(2, .to 3)] ⟨s_len (by rw [hlg]; show (gs.getD (0 + i) []).length = _; rw [Nat.zero_add]), congrArg (int .i64) wi, trivial⟩ ⟨.inl rfl, leB.ints_eq (by rw [hlg]; show gs.getD (0 + i) [] = _; rw [Nat.zero_add]) id, trivial⟩)⟩
    · replace hc : ¬ ((gs.getD (0 + i) []).length : Int) > (B.length : Int) := hc
      rw [Nat.zero_add] at hc
      rw [if_neg (by omega)] at hlg
      repeat (first | refine And.intro (by kernel_rfl) ?_ | refine And.intro (by decide) ?_)
      exact ⟨i + 1, ⟨h', by show gs.length - (i + 1) < gs.length - i; omega⟩, isAt.giv _ (MLe.fgt 1 (i + 1) rfl (by omega) (fun j c e => by cases e; show 0 + i < i + 1; omega)) (.id ⟨s_len (by rw [hlg]), congrArg (int .i64) wi, trivial⟩ rfl ⟨.inl rfl, leB.ints_eq hlg.symm id, trivial⟩ rfl)⟩
  · obtain rfl : i = gs.length := by omega
    repeat (first | refine And.intro (by kernel_rfl) ?_ | refine And.intro (by decide) ?_)
    exact ⟨lgF gs, rfl, isEnd.go [(1, .to 2)] (by rw [List.take_length]; rfl) (by rw [List.take_length]; exact ⟨.inl rfl, .inl rfl, trivial⟩)⟩
/-- the first kind of which there is one group -/
def CmOk (xs : List Sn) (r : Nat) : Prop := (r = 0 ∧ ∀ q : Nat, 1 ≤ q → q ≤ 6 → (gk q xs).length ≠ 1) ∨ (1 ≤ r ∧ r ≤ 6 ∧ (gk r xs).length = 1 ∧ ∀ q : Nat, 1 ≤ q → q < r → (gk q xs).length ≠ 1)
theorem CmOk.eq {xs : List Sn} {r r' : Nat} (h : CmOk xs r) (h' : CmOk xs r') : r = r' := by
  rcases h with ⟨rfl, h⟩ | ⟨h1, h2, h3, h4⟩
  · rcases h' with ⟨rfl, _⟩ | ⟨k1, k2, k3, _⟩
    · rfl
    · exact absurd k3 (h r' k1 k2)
  · rcases h' with ⟨rfl, h'⟩ | ⟨k1, k2, k3, k4⟩
    · exact absurd h3 (h' r h1 h2)
    · rcases Nat.lt_trichotomy r r' with h | h | h
      · exact absurd h3 (k4 r h1 h)
      · exact h
      · exact absurd k3 (h4 r' k1 h)
set_option maxHeartbeats 3200000 in
set_option maxRecDepth 10000 in
theorem common_fc (xs : List Sn) (hl : xs.length ≤ 1000) : ∃ r : Nat, FC Try.prog 16 [.o (.c (.s 0 0 xs.length 8))] [snB xs false] (int .i64 (r : Int)) [snB xs false] ∧ CmOk xs r := by
  refine FC.rj mix Try.func16 ?_
  refine ALoop.go (X := Nat) (fun k => 1 ≤ k ∧ k ≤ 7 ∧ ∀ q : Nat, 1 ≤ q → q < k → (gk q xs).length ≠ 1) (fun k => 7 - k) [0] [0] (fun k => [(3, int .i64 (k : Int))]) (fun _ => []) 1 ⟨Nat.le_refl _, by omega, fun q h1 h2 => by omega⟩ ⟨rfl, trivial⟩ trivial ?_
  rintro k ⟨hk1, hk7, hno⟩
  dsimp only [headF, headM]
  refine bselD (fun h => ?_) (fun h => ?_)
  · have wk : IntKind.i64.wrap ((k : Int) + 1) = ((k + 1 : Nat) : Int) := wrap64_in (by omega) (by omega)
    repeat refine AJoin.plain ?_
    refine FC.x (groups_fc (k : Int) xs hl) [0] (fun gs hgs => ?_)
    repeat (first | refine And.intro (by kernel_rfl) ?_ | refine And.intro (by decide) ?_)
    refine bselE (fun hc => ?_) (fun hc => ?_)
    · repeat (first | refine And.intro (by kernel_rfl) ?_ | refine And.intro (by decide) ?_)
      exact ⟨k, .inr ⟨hk1, by omega, by rw [← hgs]; omega, hno⟩, .id rfl ⟨.inl rfl, trivial⟩⟩
    · repeat (first | refine And.intro (by kernel_rfl) ?_ | refine And.intro (by decide) ?_)
      refine ⟨k + 1, ⟨⟨by omega, by omega, fun q h1 h2 => ?_⟩, by show 7 - (k + 1) < 7 - k; omega⟩, .id ⟨congrArg (int .i64) wk, trivial⟩ rfl trivial rfl⟩
      rcases Nat.lt_or_ge q k with h3 | h3
      · exact hno q h1 h3
      · obtain rfl : q = k := by omega
        rw [← hgs]; omega
  · obtain rfl : k = 7 := by omega
    repeat (first | refine And.intro (by kernel_rfl) ?_ | refine And.intro (by decide) ?_)
    exact ⟨0, .inl ⟨rfl, fun q h1 h2 => hno q h1 (by omega)⟩, .id rfl ⟨.inl rfl, trivial⟩⟩
set_option maxHeartbeats 3200000 in
set_option maxRecDepth 10000 in
theorem rcommon_fc (xs : List Sn) (hl : xs.length ≤ 1000) : ∃ r : Nat, FC Try.prog 24 [.o (.c (.s 0 0 xs.length 8))] [snB xs false] (int .i64 (r : Int)) [snB xs false] ∧ CmOk xs r := by
  refine FC.rj mix Try.func24 ?_
  refine ALoop.go (X := Nat) (fun k => 1 ≤ k ∧ k ≤ 7 ∧ ∀ q : Nat, 1 ≤ q → q < k → (gk q xs).length ≠ 1) (fun k => 7 - k) [0] [0] (fun k => [(3, int .i64 (k : Int))]) (fun _ => []) 1 ⟨Nat.le_refl _, by omega, fun q h1 h2 => by omega⟩ ⟨rfl, trivial⟩ trivial ?_
  rintro k ⟨hk1, hk7, hno⟩
  dsimp only [headF, headM]
  refine bselD (fun h => ?_) (fun h => ?_)
  · have wk : IntKind.i64.wrap ((k : Int) + 1) = ((k + 1 : Nat) : Int) := wrap64_in (by omega) (by omega)
    repeat refine AJoin.plain ?_
    refine FC.x (rgroups_fc (k : Int) xs hl) [0] (fun gs hgs => ?_)
    repeat (first | refine And.intro (by kernel_rfl) ?_ | refine And.intro (by decide) ?_)
    refine bselE (fun hc => ?_) (fun hc => ?_)
    · repeat (first | refine And.intro (by kernel_rfl) ?_ | refine And.intro (by decide) ?_)
      exact ⟨k, .inr ⟨hk1, by omega, by rw [← hgs]; omega, hno⟩, .id rfl ⟨.inl rfl, trivial⟩⟩
    · repeat (first | refine And.intro (by kernel_rfl) ?_ | refine And.intro (by decide) ?_)
      refine ⟨k + 1, ⟨⟨by omega, by omega, fun q h1 h2 => ?_⟩, by show 7 - (k + 1) < 7 - k; omega⟩, .id ⟨congrArg (int .i64) wk, trivial⟩ rfl trivial rfl⟩
      rcases Nat.lt_or_ge q k with h3 | h3
      · exact hno q h1 h3
      · obtain rfl : q = k := by omega
        rw [← hgs]; omega
  · obtain rfl : k = 7 := by omega
    repeat (first | refine And.intro (by kernel_rfl) ?_ | refine And.intro (by decide) ?_)
    exact ⟨0, .inl ⟨rfl, fun q h1 h2 => hno q h1 (by omega)⟩, .id rfl ⟨.inl rfl, trivial⟩⟩
end Go.Sx.T1
namespace Go.Sx.T1
open Go.Proofs
set_option maxHeartbeats 3200000 in
set_option maxRecDepth 10000 in
theorem ints_fc (xs ys : List Int) (hx : xs.length ≤ 100000) : FC Try.prog 27 [.o (.c (.s 0 0 xs.length 1)), .o (.c (.s 1 0 ys.length 1))] [i64s xs false, i64s ys false] (boo (decide (xs = ys))) [i64s xs false, i64s ys false] := by
  refine FC.one (FC.rj mix Try.func27 ?_)
  refine bselN (fun h => ?_) (fun h => ?_)
  · repeat (first | refine And.intro (by kernel_rfl) ?_ | refine And.intro (by decide) ?_)
    refine ⟨(), trivial, .id (congrArg boo ?_) ⟨.inl rfl, .inl rfl, trivial⟩⟩
    have : xs ≠ ys := fun e => by subst e; exact h rfl
    simp [this]
  replace h : (xs.length : Int) = (ys.length : Int) := h
  have hl : xs.length = ys.length := by omega
  repeat (first | refine And.intro (by kernel_rfl) ?_ | refine And.intro (by decide) ?_)
  refine ALoop.go (X := Nat) (fun i => i ≤ xs.length ∧ ∀ q, q < i → xs.getD q 0 = ys.getD q 0) (fun i => xs.length - i) [1, 12, 13] [0, 1] (fun i => [(14, int .i64 (i : Int))]) (fun _ => []) 0 ⟨Nat.zero_le _, fun q h => by omega⟩ ⟨rfl, trivial⟩ trivial ?_
  rintro i ⟨hi, ha⟩
  dsimp only [headF, headM]
  refine bselD (fun h => ?_) (fun h => ?_)
  · have h' : i < xs.length := by omega
    have wi : IntKind.i64.wrap ((i : Int) + 1) = ((i + 1 : Nat) : Int) := wrap64_in (by omega) (by omega)
    repeat refine AJoin.plain ?_
    refine And.intro ⟨by omega, h⟩ ?_
    refine And.intro (by show 0 + i < xs.length; omega) ?_
    refine And.intro ⟨by omega, by show (i : Int) < (ys.length : Int); omega⟩ ?_
    refine And.intro (by show 0 + i < ys.length; omega) ?_
    refine bselN (fun hc => ?_) (fun hc => ?_)
    · replace hc : ¬ ys.getD (0 + i) 0 = xs.getD (0 + i) 0 := hc
      repeat (first | refine And.intro (by kernel_rfl) ?_ | refine And.intro (by decide) ?_)
      refine ⟨(), trivial, .id (congrArg boo ?_) ⟨.inl rfl, .inl rfl, trivial⟩⟩
      have : xs ≠ ys := fun e => by subst e; exact hc rfl
      simp [this]
    · replace hc : ys.getD (0 + i) 0 = xs.getD (0 + i) 0 := hc
      rw [Nat.zero_add] at hc
      repeat (first | refine And.intro (by kernel_rfl) ?_ | refine And.intro (by decide) ?_)
      refine ⟨i + 1, ⟨⟨h', fun q hq => ?_⟩, by show xs.length - (i + 1) < xs.length - i; omega⟩, .id ⟨congrArg (int .i64) wi, trivial⟩ rfl trivial rfl⟩
      rcases Nat.lt_or_ge q i with h3 | h3
      · exact ha q h3
      · obtain rfl : q = i := by omega
        exact hc.symm
  · obtain rfl : i = xs.length := by omega
    repeat (first | refine And.intro (by kernel_rfl) ?_ | refine And.intro (by decide) ?_)
    refine ⟨(), trivial, .id (congrArg boo ?_) ⟨.inl rfl, .inl rfl, trivial⟩⟩
    have : xs = ys := List.ext_getElem hl fun q h1 h2 => by
      have := ha q h1
      simpa [List.getD, h1, h2] using this
    simp [this]
theorem ints_x (xs ys : List Int) (hx : xs.length ≤ 100000) : ∃ c : Bool, FC Try.prog 27 [.o (.c (.s 0 0 xs.length 1)), .o (.c (.s 1 0 ys.length 1))] [i64s xs false, i64s ys false] (boo c) [i64s xs false, i64s ys false] ∧ (c = true ↔ xs = ys) :=
  ⟨_, ints_fc xs ys hx, decide_eq_true_iff⟩
set_option maxHeartbeats 3200000 in
set_option maxRecDepth 10000 in
theorem sameg_fc (us vs : List (List Int)) (ha : us.length ≤ 100000) (hr : ∀ q, (us.getD q []).length ≤ 100000) : ∃ c : Bool, FC Try.prog 25 [.o (.c (.s 0 0 us.length 1)), .o (.c (.s 1 0 vs.length 1))] [dpB us false, dpB vs false] (boo c) [dpB us false, dpB vs false] ∧ (c = true ↔ us = vs) := by
  refine FC.rj mix Try.func25 ?_
  refine bselN (fun h => ?_) (fun h => ?_)
  · repeat (first | refine And.intro (by kernel_rfl) ?_ | refine And.intro (by decide) ?_)
    refine ⟨false, ⟨(fun h => by cases h), fun e => ?_⟩, .id rfl ⟨.inl rfl, .inl rfl, trivial⟩⟩
    subst e; exact absurd rfl h
  replace h : (us.length : Int) = (vs.length : Int) := h
  have hl : us.length = vs.length := by omega
  repeat (first | refine And.intro (by kernel_rfl) ?_ | refine And.intro (by decide) ?_)
  refine ALoop.go (X := Nat) (fun i => i ≤ us.length ∧ ∀ q, q < i → us.getD q [] = vs.getD q []) (fun i => us.length - i) [1, 12, 13] [0, 1] (fun i => [(14, int .i64 (i : Int))]) (fun _ => []) 0 ⟨Nat.zero_le _, fun q h => by omega⟩ ⟨rfl, trivial⟩ trivial ?_
  rintro i ⟨hi, hall⟩
  dsimp only [headF, headM]
  refine bselD (fun h => ?_) (fun h => ?_)
  · have h' : i < us.length := by omega
    have wi : IntKind.i64.wrap ((i : Int) + 1) = ((i + 1 : Nat) : Int) := wrap64_in (by omega) (by omega)
    repeat refine AJoin.plain ?_
    refine And.intro ⟨by omega, h⟩ ?_
    refine And.intro ⟨Nat.zero_le _, by show 0 + i < us.length; omega⟩ ?_
    refine And.intro ⟨by omega, by show (i : Int) < (vs.length : Int); omega⟩ ?_
    refine And.intro ⟨Nat.zero_le _, by show 0 + i < vs.length; omega⟩ ?_
    refine FC.x (ints_x (us.getD (0 + i) []) (vs.getD (0 + i) []) (hr _)) [2, 3] (fun c hc => ?_)
    rw [Nat.zero_add] at hc
    refine bselNot (bsel_intro (fun h1 => ?_) (fun h1 => ?_))
    · repeat (first | refine And.intro (by kernel_rfl) ?_ | refine And.intro (by decide) ?_)
      refine ⟨i + 1, ⟨⟨h', fun q hq => ?_⟩, by show us.length - (i + 1) < us.length - i; omega⟩, .id ⟨congrArg (int .i64) wi, trivial⟩ rfl trivial rfl⟩
      rcases Nat.lt_or_ge q i with h3 | h3
      · exact hall q h3
      · obtain rfl : q = i := by omega
        exact hc.1 h1
    · repeat (first | refine And.intro (by kernel_rfl) ?_ | refine And.intro (by decide) ?_)
      refine ⟨false, ⟨(fun h => by cases h), fun e => ?_⟩, .id rfl ⟨.inl rfl, .inl rfl, trivial⟩⟩
      subst e
      rw [hc.2 rfl] at h1; cases h1
  · obtain rfl : i = us.length := by omega
    repeat (first | refine And.intro (by kernel_rfl) ?_ | refine And.intro (by decide) ?_)
    refine ⟨true, ⟨fun _ => ?_, fun _ => rfl⟩, .id rfl ⟨.inl rfl, .inl rfl, trivial⟩⟩
    exact List.ext_getElem hl fun q h1 h2 => by
      have := hall q h1
      simpa [List.getD, h1, h2] using this
/-- the sanity check's sightings -/
def awA : Sn := ⟨zero6, 3, 0⟩
def awC : Sn := ⟨⟨0, 0, 0, 0, 0, 1⟩, 3, 0⟩
theorem aw_common {r : Nat} (h : CmOk [awA, awC] r) : r = 2 := by
  have h1 : (gk (1 : Nat) [awA, awC]).length ≠ 1 := by decide
  refine h.eq (.inr ⟨by decide, by decide, by decide, fun q h2 h3 => ?_⟩)
  obtain rfl : q = 1 := by omega
  exact h1
theorem aw_same2 : FC Try.prog 14 [int .i64 2, snS awA, snS awC] [] (boo true) [] := by
  have := same_fc 2 awA awC
  rwa [show smB 2 awA awC = true by decide] at this
theorem aw_same3 : FC Try.prog 14 [int .i64 3, snS awA, snS awC] [] (boo false) [] := by
  have := same_fc 3 awA awC
  rwa [show smB 3 awA awC = false by decide] at this
theorem two_cases {P : Nat → Prop} (h0 : P 0) (h1 : P 1) : ∀ i, i < 2 → P i := fun i hi => by
  rcases (show i = 0 ∨ i = 1 by omega) with rfl | rfl
  · exact h0
  · exact h1
theorem three_cases {P : Nat → Prop} (h0 : P 0) (h1 : P 1) (h2 : P 2) : ∀ i, i < 3 → P i := fun i hi => by
  rcases (show i = 0 ∨ i = 1 ∨ i = 2 by omega) with rfl | rfl | rfl
  · exact h0
  · exact h1
  · exact h2
set_option maxHeartbeats 3200000 in
set_option maxRecDepth 10000 in
theorem awake_fc : FC Try.prog 9 [] [] (boo true) [] := by
  refine FC.one (FC.r mix Try.func9 ?_)
  repeat (first | refine And.intro (by kernel_rfl) ?_ | refine And.intro (by decide) ?_)
  refine FC.x (common_fc [awA, awC] (by decide)) [2] (fun r hr => ?_) (hrd := ⟨.inr (.inr (leB.rows (Nat.le_refl _) (two_cases rfl rfl) (fun h => by cases h))), trivial⟩)
  obtain rfl := aw_common hr
  repeat (first | refine And.intro (by kernel_rfl) ?_ | refine And.intro (by decide) ?_)
  refine FC.u aw_same2 [] ?_
  refine FC.u aw_same3 [] ?_
  repeat (first | refine And.intro (by kernel_rfl) ?_ | refine And.intro (by decide) ?_)
  refine FC.x (groups_fc 1 [awA, awC, awA] (by decide)) [3] (fun g hg => ?_) (hrd := ⟨.inr (.inr (leB.rows (Nat.le_refl _) (three_cases rfl rfl rfl) (fun h => by cases h))), trivial⟩)
  have hl : g.length = 2 := by rw [hg]; decide
  repeat (first | refine And.intro (by kernel_rfl) ?_ | refine And.intro (by decide) ?_)
  exact ⟨(), trivial, .id (congrArg boo (by rw [hl]; rfl)) trivial⟩
end Go.Sx.T1
namespace Go.Sx.T1
open Go.Proofs
/-- how many different keys -/
def cn {α : Type} (κ : α → Ky) (xs : List α) : Nat := (dk (xs.map κ)).length
theorem cn_le {α : Type} (κ : α → Ky) (xs : List α) : cn κ xs ≤ xs.length := by
  have := dk_len (xs.map κ)
  simpa [cn] using this
theorem cn_snoc {α : Type} (κ : α → Ky) (xs : List α) (x : α) : cn κ (xs ++ [x]) = cn κ xs + (if κ x ∈ xs.map κ then 0 else 1) := by
  unfold cn
  rw [List.map_append]
  show (dk (xs.map κ ++ [κ x])).length = _
  rw [dk_snoc]
  by_cases h : κ x ∈ xs.map κ
  · rw [if_pos ((mem_dk _ _).2 h), if_pos h]; rfl
  · rw [if_neg (fun e => h ((mem_dk _ _).1 e)), if_neg h, List.length_append]; rfl
/-- keys that tell the same apart -/
theorem cn_same {α : Type} {κ κ' : α → Ky} (h : ∀ x y, κ x = κ y ↔ κ' x = κ' y) (xs : List α) : cn κ xs = cn κ' xs := by
  revert xs
  refine snoc_ind rfl fun xs x ih => ?_
  rw [cn_snoc, cn_snoc, ih]
  have : κ x ∈ xs.map κ ↔ κ' x ∈ xs.map κ' := by
    simp only [List.mem_map]
    exact ⟨fun ⟨y, hy, e⟩ => ⟨y, hy, (h y x).1 e⟩, fun ⟨y, hy, e⟩ => ⟨y, hy, (h y x).2 e⟩⟩
  simp only [this]
/-- a place's part -/
def plL (kind : Int) (x : Sn) : Ky := [(whP kind x.p).a, (whP kind x.p).b, (whP kind x.p).c, (whP kind x.p).d, (whP kind x.p).e, (whP kind x.p).f]
def kbox (kind : Int) (wr : Bool) : Option Blk := some ⟨.box [.v (.int .i64 kind)], wr⟩
set_option maxHeartbeats 3200000 in
set_option maxRecDepth 10000 in
theorem spot_fc (kind chip : Int) (p : S6) : FC Try.prog 34 [s6S p, int .i64 chip, .o (.c (.p 0 0 0))] [kbox kind false] (s6S (whP kind p)) [kbox kind false] := by
  refine FC.one (FC.r mix Try.func34 ?_)
  repeat (first | refine And.intro (by kernel_rfl) ?_ | refine And.intro (by decide) ?_)
  refine FC.u (where_fc kind p) [] ?_
  repeat (first | refine And.intro (by kernel_rfl) ?_ | refine And.intro (by decide) ?_)
  exact ⟨(), trivial, .id rfl ⟨.inl rfl, trivial⟩⟩
def spF (n : Nat) : C := .f 34 [] [.p n 0 0]
set_option maxHeartbeats 3200000 in
set_option maxRecDepth 10000 in
theorem of_fc (kind : Int) : FC Try.prog 33 [int .i64 kind] [] (.o (.c (spF 0))) [kbox kind true] := by
  refine FC.one (FC.r mix Try.func33 ?_)
  repeat (first | refine And.intro (by kernel_rfl) ?_ | refine And.intro (by decide) ?_)
  exact ⟨(), trivial, .id rfl ⟨.inl rfl, trivial⟩⟩
set_option maxHeartbeats 3200000 in
set_option maxRecDepth 10000 in
theorem spot2_fc (chip : Int) (p : S6) : FC Try.prog 37 [s6S p, int .i64 chip] [] (.o (.a (keyC (keyL 5 ⟨p, chip, 0⟩)))) [] := by
  refine FC.one (FC.r mix Try.func37 ?_)
  repeat (first | refine And.intro (by kernel_rfl) ?_ | refine And.intro (by decide) ?_)
  refine FC.u (where_fc 5 p) [] ?_
  repeat (first | refine And.intro (by kernel_rfl) ?_ | refine And.intro (by decide) ?_)
  exact ⟨(), trivial, .id rfl trivial⟩
set_option maxHeartbeats 3200000 in
set_option maxRecDepth 10000 in
theorem distinct_fc (kind : Int) (xs : List Sn) (hl : xs.length ≤ 1000) : ∃ r : Nat, FC Try.prog 35 [.o (.c (.s 0 0 xs.length 8)), .o (.c (spF 1))] [snB xs false, kbox kind false] (int .i64 (r : Int)) [snB xs false, kbox kind false] ∧ r = cn (plL kind) xs := by
  refine FC.rj mix Try.func35 ?_
  repeat (first | refine And.intro (by kernel_rfl) ?_ | refine And.intro (by decide) ?_)
  refine ALoop.go (X := Nat) (fun i => i ≤ xs.length) (fun i => xs.length - i) [1, 4, 5, 9, 10] [0, 1] (fun i => [(11, int .i64 (i : Int))]) (fun i => [(2, ⟨.map .many (trs (dk ((xs.map (plL kind)).take i))), true⟩)]) 0 (Nat.zero_le _) ⟨rfl, trivial⟩ ⟨.inl rfl, trivial⟩ ?_
  rintro i hi
  dsimp only [headF, headM]
  refine bselD (fun h => ?_) (fun h => ?_)
  rotate_left
  · obtain rfl : i = xs.length := by omega
    have e : (xs.map (plL kind)).take xs.length = xs.map (plL kind) := by rw [List.take_of_length_le]; simp
    have el : (trs (dk ((xs.map (plL kind)).take xs.length))).length = cn (plL kind) xs := by rw [e, trs_len]; rfl
    repeat (first | refine And.intro (by kernel_rfl) ?_ | refine And.intro (by decide) ?_)
    exact ⟨cn (plL kind) xs, rfl, .id (by rw [← el]; rfl) ⟨.inl rfl, .inl rfl, trivial⟩⟩
  have h' : i < xs.length := by omega
  have wi : IntKind.i64.wrap ((i : Int) + 1) = ((i + 1 : Nat) : Int) := wrap64_in (by omega) (by omega)
  have hstep : (xs.map (plL kind)).take (i + 1) = (xs.map (plL kind)).take i ++ [plL kind (xs.getD (0 + i) sn0)] := by rw [Nat.zero_add]; exact take_key (plL kind) xs sn0 h'
  have hlen : ∀ k ∈ dk ((xs.map (plL kind)).take i), k.length = 6 := fun k hk => by
    obtain ⟨x, _, rfl⟩ := List.mem_map.1 (List.mem_of_mem_take ((mem_dk _ _).1 hk))
    rfl
  generalize hK : (xs.map (plL kind)).take i = K at *
  refine And.intro ⟨by omega, h⟩ ?_
  refine And.intro (by show 0 + i < xs.length; omega) ?_
  repeat (first | refine And.intro (by kernel_rfl) ?_ | refine And.intro (by decide) ?_)
  refine FC.u (spot_fc kind (xs.getD (0 + i) sn0).chip (xs.getD (0 + i) sn0).p) [1] ?_
  repeat (first | refine And.intro (by kernel_rfl) ?_ | refine And.intro (by decide) ?_)
  refine And.intro (fun p hp => hlen _ (trs_mem hp)) ?_
  repeat (first | refine And.intro (by kernel_rfl) ?_ | refine And.intro (by decide) ?_)
  exact ⟨i + 1, ⟨h', by show xs.length - (i + 1) < xs.length - i; omega⟩, .id ⟨congrArg (int .i64) wi, trivial⟩ rfl ⟨leMp (by rw [hstep, ← trs_step]; rfl), trivial⟩ rfl⟩
set_option maxHeartbeats 3200000 in
set_option maxRecDepth 10000 in
theorem distinct2_fc (xs : List Sn) (hl : xs.length ≤ 1000) : ∃ r : Nat, FC Try.prog 36 [.o (.c (.s 0 0 xs.length 8)), vv (.func (.func 37) #[] #[])] [snB xs false] (int .i64 (r : Int)) [snB xs false] ∧ r = cn (keyL 5) xs := by
  refine FC.rj mix Try.func36 ?_
  repeat (first | refine And.intro (by kernel_rfl) ?_ | refine And.intro (by decide) ?_)
  refine ALoop.go (X := Nat) (fun i => i ≤ xs.length) (fun i => xs.length - i) [1, 4, 5, 9, 10] [0] (fun i => [(11, int .i64 (i : Int))]) (fun i => [(1, ⟨.map .many (trs (dk ((xs.map (keyL 5)).take i))), true⟩)]) 0 (Nat.zero_le _) ⟨rfl, trivial⟩ ⟨.inl rfl, trivial⟩ ?_
  rintro i hi
  dsimp only [headF, headM]
  refine bselD (fun h => ?_) (fun h => ?_)
  rotate_left
  · obtain rfl : i = xs.length := by omega
    have e : (xs.map (keyL 5)).take xs.length = xs.map (keyL 5) := by rw [List.take_of_length_le]; simp
    have el : (trs (dk ((xs.map (keyL 5)).take xs.length))).length = cn (keyL 5) xs := by rw [e, trs_len]; rfl
    repeat (first | refine And.intro (by kernel_rfl) ?_ | refine And.intro (by decide) ?_)
    exact ⟨cn (keyL 5) xs, rfl, .id (by rw [← el]; rfl) ⟨.inl rfl, trivial⟩⟩
  have h' : i < xs.length := by omega
  have wi : IntKind.i64.wrap ((i : Int) + 1) = ((i + 1 : Nat) : Int) := wrap64_in (by omega) (by omega)
  have hstep : (xs.map (keyL 5)).take (i + 1) = (xs.map (keyL 5)).take i ++ [keyL 5 (xs.getD (0 + i) sn0)] := by rw [Nat.zero_add]; exact take_key (keyL 5) xs sn0 h'
  have hlen : ∀ k ∈ dk ((xs.map (keyL 5)).take i), k.length = 7 := fun k hk => by
    obtain ⟨x, _, rfl⟩ := List.mem_map.1 (List.mem_of_mem_take ((mem_dk _ _).1 hk))
    rfl
  generalize hK : (xs.map (keyL 5)).take i = K at *
  refine And.intro ⟨by omega, h⟩ ?_
  refine And.intro (by show 0 + i < xs.length; omega) ?_
  repeat (first | refine And.intro (by kernel_rfl) ?_ | refine And.intro (by decide) ?_)
  refine FC.u (spot2_fc (xs.getD (0 + i) sn0).chip (xs.getD (0 + i) sn0).p) [] ?_
  repeat (first | refine And.intro (by kernel_rfl) ?_ | refine And.intro (by decide) ?_)
  refine And.intro (fun p hp => hlen _ (trs_mem hp)) ?_
  repeat (first | refine And.intro (by kernel_rfl) ?_ | refine And.intro (by decide) ?_)
  exact ⟨i + 1, ⟨h', by show xs.length - (i + 1) < xs.length - i; omega⟩, .id ⟨congrArg (int .i64) wi, trivial⟩ rfl ⟨leMp (by rw [hstep, ← trs_step]; rfl), trivial⟩ rfl⟩
/-- the reference's keys -/
def snL (kind : Int) (chip : Bool) (x : Sn) : Ky := [(whP kind x.p).a, (whP kind x.p).b, (whP kind x.p).c, (whP kind x.p).d, (whP kind x.p).e, (whP kind x.p).f, match chip with | true => x.chip | false => 0, 0]
set_option maxHeartbeats 3200000 in
set_option maxRecDepth 10000 in
theorem rdistinctT_fc (kind : Int) (hw : whB kind = true) (xs : List Sn) (hl : xs.length ≤ 1000) : ∃ r : Nat, FC Try.prog 41 [.o (.c (.s 0 0 xs.length 8)), int .i64 kind, boo true] [snB xs false] (int .i64 (r : Int)) [snB xs false] ∧ r = cn (snL kind true) xs := by
  refine FC.rj mix Try.func41 ?_
  repeat (first | refine And.intro (by kernel_rfl) ?_ | refine And.intro (by decide) ?_)
  refine ALoop.go (X := Nat) (fun i => i ≤ xs.length) (fun i => xs.length - i) [1, 2, 6, 7, 12, 13] [0] (fun i => [(14, int .i64 (i : Int))]) (fun i => [(1, ⟨.map .many (trs (dk ((xs.map (snL kind true)).take i))), true⟩)]) 0 (Nat.zero_le _) ⟨rfl, trivial⟩ ⟨.inl rfl, trivial⟩ ?_
  rintro i hi
  dsimp only [headF, headM]
  refine bselD (fun h => ?_) (fun h => ?_)
  rotate_left
  · obtain rfl : i = xs.length := by omega
    have e : (xs.map (snL kind true)).take xs.length = xs.map (snL kind true) := by rw [List.take_of_length_le]; simp
    have el : (trs (dk ((xs.map (snL kind true)).take xs.length))).length = cn (snL kind true) xs := by rw [e, trs_len]; rfl
    repeat (first | refine And.intro (by kernel_rfl) ?_ | refine And.intro (by decide) ?_)
    exact ⟨cn (snL kind true) xs, rfl, .id (by rw [← el]; rfl) ⟨.inl rfl, trivial⟩⟩
  have h' : i < xs.length := by omega
  have wi : IntKind.i64.wrap ((i : Int) + 1) = ((i + 1 : Nat) : Int) := wrap64_in (by omega) (by omega)
  have hstep : (xs.map (snL kind true)).take (i + 1) = (xs.map (snL kind true)).take i ++ [snL kind true (xs.getD (0 + i) sn0)] := by rw [Nat.zero_add]; exact take_key (snL kind true) xs sn0 h'
  have hlen : ∀ k ∈ dk ((xs.map (snL kind true)).take i), k.length = 8 := fun k hk => by
    obtain ⟨x, _, rfl⟩ := List.mem_map.1 (List.mem_of_mem_take ((mem_dk _ _).1 hk))
    rfl
  generalize hK : (xs.map (snL kind true)).take i = K at *
  refine And.intro ⟨by omega, h⟩ ?_
  refine And.intro (by show 0 + i < xs.length; omega) ?_
  repeat (first | refine And.intro (by kernel_rfl) ?_ | refine And.intro (by decide) ?_)
  refine FC.u (part_fc kind (xs.getD (0 + i) sn0).p hw) [] ?_
  repeat refine AJoin.plain ?_
  repeat (first | refine And.intro (by kernel_rfl) ?_ | refine And.intro (by decide) ?_)
  refine And.intro (fun p hp => hlen _ (trs_mem hp)) ?_
  repeat (first | refine And.intro (by kernel_rfl) ?_ | refine And.intro (by decide) ?_)
  exact ⟨i + 1, ⟨h', by show xs.length - (i + 1) < xs.length - i; omega⟩, .id ⟨congrArg (int .i64) wi, trivial⟩ rfl ⟨leMp (by rw [hstep, ← trs_step]; rfl), trivial⟩ rfl⟩
set_option maxHeartbeats 3200000 in
set_option maxRecDepth 10000 in
theorem rdistinctF_fc (kind : Int) (hw : whB kind = true) (xs : List Sn) (hl : xs.length ≤ 1000) : ∃ r : Nat, FC Try.prog 41 [.o (.c (.s 0 0 xs.length 8)), int .i64 kind, boo false] [snB xs false] (int .i64 (r : Int)) [snB xs false] ∧ r = cn (snL kind false) xs := by
  refine FC.rj mix Try.func41 ?_
  repeat (first | refine And.intro (by kernel_rfl) ?_ | refine And.intro (by decide) ?_)
  refine ALoop.go (X := Nat) (fun i => i ≤ xs.length) (fun i => xs.length - i) [1, 2, 6, 7, 12, 13] [0] (fun i => [(14, int .i64 (i : Int))]) (fun i => [(1, ⟨.map .many (trs (dk ((xs.map (snL kind false)).take i))), true⟩)]) 0 (Nat.zero_le _) ⟨rfl, trivial⟩ ⟨.inl rfl, trivial⟩ ?_
  rintro i hi
  dsimp only [headF, headM]
  refine bselD (fun h => ?_) (fun h => ?_)
  rotate_left
  · obtain rfl : i = xs.length := by omega
    have e : (xs.map (snL kind false)).take xs.length = xs.map (snL kind false) := by rw [List.take_of_length_le]; simp
    have el : (trs (dk ((xs.map (snL kind false)).take xs.length))).length = cn (snL kind false) xs := by rw [e, trs_len]; rfl
    repeat (first | refine And.intro (by kernel_rfl) ?_ | refine And.intro (by decide) ?_)
    exact ⟨cn (snL kind false) xs, rfl, .id (by rw [← el]; rfl) ⟨.inl rfl, trivial⟩⟩
  have h' : i < xs.length := by omega
  have wi : IntKind.i64.wrap ((i : Int) + 1) = ((i + 1 : Nat) : Int) := wrap64_in (by omega) (by omega)
  have hstep : (xs.map (snL kind false)).take (i + 1) = (xs.map (snL kind false)).take i ++ [snL kind false (xs.getD (0 + i) sn0)] := by rw [Nat.zero_add]; exact take_key (snL kind false) xs sn0 h'
  have hlen : ∀ k ∈ dk ((xs.map (snL kind false)).take i), k.length = 8 := fun k hk => by
    obtain ⟨x, _, rfl⟩ := List.mem_map.1 (List.mem_of_mem_take ((mem_dk _ _).1 hk))
    rfl
  generalize hK : (xs.map (snL kind false)).take i = K at *
  refine And.intro ⟨by omega, h⟩ ?_
  refine And.intro (by show 0 + i < xs.length; omega) ?_
  repeat (first | refine And.intro (by kernel_rfl) ?_ | refine And.intro (by decide) ?_)
  refine FC.u (part_fc kind (xs.getD (0 + i) sn0).p hw) [] ?_
  repeat refine AJoin.plain ?_
  repeat (first | refine And.intro (by kernel_rfl) ?_ | refine And.intro (by decide) ?_)
  refine And.intro (fun p hp => hlen _ (trs_mem hp)) ?_
  repeat (first | refine And.intro (by kernel_rfl) ?_ | refine And.intro (by decide) ?_)
  exact ⟨i + 1, ⟨h', by show xs.length - (i + 1) < xs.length - i; omega⟩, .id ⟨congrArg (int .i64) wi, trivial⟩ rfl ⟨leMp (by rw [hstep, ← trs_step]; rfl), trivial⟩ rfl⟩
end Go.Sx.T1
namespace Go.Sx.T1
open Go.Proofs
/-- what sightings spread over -/
structure Spr where
  c6 : Nat
  c5 : Nat
  h5 : Nat
  c4 : Nat
  c2 : Nat
  c3 : Nat
  c1 : Nat
def spC (x : Spr) : List C := [.v (.int .i64 (x.c6 : Int)), .v (.int .i64 (x.c5 : Int)), .v (.int .i64 (x.h5 : Int)), .v (.int .i64 (x.c4 : Int)), .v (.int .i64 (x.c2 : Int)), .v (.int .i64 (x.c3 : Int)), .v (.int .i64 (x.c1 : Int))]
def sprF (xs : List Sn) : Spr := ⟨cn (plL 6) xs, cn (plL 5) xs, cn (keyL 5) xs, cn (plL 4) xs, cn (plL 2) xs, cn (plL 3) xs, cn (plL 1) xs⟩
set_option maxHeartbeats 3200000 in
set_option maxRecDepth 10000 in
theorem spread_fc (xs : List Sn) (hl : xs.length ≤ 1000) : ∃ r : Spr, FC Try.prog 15 [.o (.c (.s 0 0 xs.length 8))] [snB xs false] (.o (.a (spC r))) [snB xs false] ∧ r = sprF xs := by
  refine FC.r mix Try.func15 ?_
  refine FC.u (of_fc 6) [] ?_
  refine FC.x (distinct_fc 6 xs hl) [0, 2] (fun c6 e6 => ?_)
  refine FC.u (of_fc 5) [] ?_
  refine FC.x (distinct_fc 5 xs hl) [0, 3] (fun c5 e5 => ?_)
  refine FC.x (distinct2_fc xs hl) [0] (fun h5 e7 => ?_)
  refine FC.u (of_fc 4) [] ?_
  refine FC.x (distinct_fc 4 xs hl) [0, 4] (fun c4 e4 => ?_)
  refine FC.u (of_fc 2) [] ?_
  refine FC.x (distinct_fc 2 xs hl) [0, 5] (fun c2 e2 => ?_)
  refine FC.u (of_fc 3) [] ?_
  refine FC.x (distinct_fc 3 xs hl) [0, 6] (fun c3 e3 => ?_)
  refine FC.u (of_fc 1) [] ?_
  refine FC.x (distinct_fc 1 xs hl) [0, 7] (fun c1 e1 => ?_)
  repeat (first | refine And.intro (by kernel_rfl) ?_ | refine And.intro (by decide) ?_)
  exact ⟨⟨c6, c5, h5, c4, c2, c3, c1⟩, by rw [sprF, e1, e2, e3, e4, e5, e6, e7], .id rfl ⟨.inl rfl, trivial⟩⟩
theorem sn_pl (k : Int) (xs : List Sn) : cn (snL k false) xs = cn (plL k) xs := cn_same (fun x y => by simp [snL, plL]) xs
theorem sn_key (k : Int) (xs : List Sn) : cn (snL k true) xs = cn (keyL k) xs := cn_same (fun x y => by simp [snL, keyL]) xs
set_option maxHeartbeats 3200000 in
set_option maxRecDepth 10000 in
theorem rspread_fc (xs : List Sn) (hl : xs.length ≤ 1000) : ∃ r : Spr, FC Try.prog 23 [.o (.c (.s 0 0 xs.length 8))] [snB xs false] (.o (.a (spC r))) [snB xs false] ∧ r = sprF xs := by
  refine FC.r mix Try.func23 ?_
  refine FC.x (rdistinctF_fc 6 rfl xs hl) [0] (fun c6 e6 => ?_)
  refine FC.x (rdistinctF_fc 5 rfl xs hl) [0] (fun c5 e5 => ?_)
  refine FC.x (rdistinctT_fc 5 rfl xs hl) [0] (fun h5 e7 => ?_)
  refine FC.x (rdistinctF_fc 4 rfl xs hl) [0] (fun c4 e4 => ?_)
  refine FC.x (rdistinctF_fc 2 rfl xs hl) [0] (fun c2 e2 => ?_)
  refine FC.x (rdistinctF_fc 3 rfl xs hl) [0] (fun c3 e3 => ?_)
  refine FC.x (rdistinctF_fc 1 rfl xs hl) [0] (fun c1 e1 => ?_)
  repeat (first | refine And.intro (by kernel_rfl) ?_ | refine And.intro (by decide) ?_)
  rw [sn_pl] at e1 e2 e3 e4 e5 e6
  rw [sn_key] at e7
  exact ⟨⟨c6, c5, h5, c4, c2, c3, c1⟩, by rw [sprF, e1, e2, e3, e4, e5, e6, e7], .id rfl ⟨.inl rfl, trivial⟩⟩
end Go.Sx.T1
namespace Go.Sx.T1.Counts
open Go.Proofs Go.Sx.T1
/-- of one chip -/
def stC (x : Sn) : Sn := ⟨x.p, 2, x.time⟩
def chg (xs : List Sn) (i : Nat) : List Sn := (xs.take i).map stC ++ xs.drop i
theorem chg_len (xs : List Sn) {i : Nat} (h : i ≤ xs.length) : (chg xs i).length = xs.length := by simp [chg]; omega
theorem chg_get (xs : List Sn) {i q : Nat} (h : i ≤ xs.length) (hq : q < xs.length) : (chg xs i).getD q sn0 = if q < i then stC (xs.getD q sn0) else xs.getD q sn0 := by
  unfold chg
  by_cases hc : q < i
  · rw [if_pos hc]
    simp only [List.getD]
    rw [List.getElem?_append_left (by simp; omega)]
    simp [List.getElem?_take_of_lt hc, hq]
  · rw [if_neg hc]
    simp only [List.getD]
    rw [List.getElem?_append_right (by simp; omega)]
    simp only [List.length_map, List.length_take, Nat.min_eq_left h, List.getElem?_drop]
    rw [show i + (q - i) = q by omega]
theorem chg_all (xs : List Sn) : chg xs xs.length = xs.map stC := by simp [chg]
theorem cn_map {α β : Type} (κ : β → Ky) (f : α → β) (xs : List α) : cn κ (xs.map f) = cn (fun x => κ (f x)) xs := by unfold cn; rw [List.map_map]; rfl
theorem one_chip (k : Int) (xs : List Sn) : cn (plL k) (xs.map stC) = cn (keyL k) (xs.map stC) := by
  rw [cn_map, cn_map]
  exact cn_same (fun x y => by simp [plL, keyL, stC]) xs
theorem gk_cn {k : Int} (h : whB k = true) (xs : List Sn) : (gk k xs).length = cn (keyL k) xs := by rw [gk, if_pos h, gr_len]; rfl
theorem chg_step (xs : List Sn) {i q : Nat} (h : i < xs.length) (hq : q < xs.length) : (if q = 0 + i then (if [C.v (.int .i64 2)].length = 8 then [C.v (.int .i64 2)] else repl (snC ((chg xs i).getD (0 + i) sn0)) 6 [C.v (.int .i64 2)]) else snC ((chg xs i).getD q sn0)) = snC ((chg xs (i + 1)).getD q sn0) := by
  rw [chg_get xs (show i + 1 ≤ xs.length by omega) hq, Nat.zero_add]
  by_cases e : q = i
  · subst e
    rw [if_pos rfl, if_neg (show ¬ [C.v (.int .i64 2)].length = 8 by decide), if_pos (Nat.lt_succ_self q), chg_get xs (Nat.le_of_lt h) h, if_neg (Nat.lt_irrefl q)]
    rfl
  · rw [if_neg e, chg_get xs (by omega) hq]
    by_cases h2 : q < i
    · rw [if_pos h2, if_pos (by omega)]
    · rw [if_neg h2, if_neg (by omega)]
def eN (m : List Sn) (k q : Nat) : Int := if q < k then ((gk (q : Int) m).length : Int) else 0
def eB (m : List Sn) (k : Nat) : Bk := .box [.v (.int .i64 0), .v (.int .i64 (eN m k 1)), .v (.int .i64 (eN m k 2)), .v (.int .i64 (eN m k 3)), .v (.int .i64 (eN m k 4)), .v (.int .i64 (eN m k 5)), .v (.int .i64 (eN m k 6))]
set_option maxHeartbeats 3200000 in
set_option maxRecDepth 10000 in
theorem law (ts : List Int) : FC Try.prog 4 [.o (.c (.s 0 0 ts.length 1))] [diceL ts] (boo true) [diceL ts] := by
  refine FC.one (FC.rj mix Try.func4 ?_)
  refine FC.u (light_fc ts) [0] ?_
  refine bselNot (bsel_intro (fun h => ?_) (fun h => ?_))
  rotate_left
  · refine FC.u awake_fc [] ?_
    exact ⟨(), trivial, .id rfl ⟨.inl rfl, trivial⟩⟩
  have hl : ts.length ≤ 400 := of_decide_eq_true h
  refine FC.u (roll_fc ts) [0] ?_
  refine FC.x (shape_fc ts 0 hl) [1, 0] (fun s hs => ?_)
  refine FC.x (seens_fc ts s.k s.p 14 hl hs (Nat.le_refl _)) [1, 0] (fun y hy => ?_)
  obtain ⟨l, k⟩ := y
  replace hy : l.length ≤ 14 := hy
  repeat (first | refine And.intro (by kernel_rfl) ?_ | refine And.intro (by decide) ?_)
  refine ALoop.go (X := Nat) (fun i => i ≤ l.length) (fun i => l.length - i) [2, 3, 4, 19, 20] [0, 1] (fun i => [(21, int .i64 (i : Int))]) (fun i => [(2, ⟨snK (chg l i), true⟩)]) 0 (Nat.zero_le _) ⟨rfl, trivial⟩ ⟨.inl rfl, trivial⟩ ?_
  rintro i hi
  have hcl := chg_len l hi
  dsimp only [headF, headM]
  refine bselD (fun h => ?_) (fun h => ?_)
  · have h' : i < l.length := by omega
    have wi : IntKind.i64.wrap ((i : Int) + 1) = ((i + 1 : Nat) : Int) := wrap64_in (by omega) (by omega)
    refine And.intro ⟨by omega, h⟩ ?_
    refine And.intro (by show 0 + i < (chg l i).length; omega) ?_
    repeat (first | refine And.intro (by kernel_rfl) ?_ | refine And.intro (by decide) ?_)
    exact ⟨i + 1, ⟨h', by show l.length - (i + 1) < l.length - i; omega⟩, .id ⟨congrArg (int .i64) wi, trivial⟩ rfl ⟨leB.rows (by rw [chg_len l h', hcl]; exact Nat.le_refl _) (fun q hq => chg_step l h' (by rw [chg_len l h'] at hq; exact hq)) id, trivial⟩ rfl⟩
  · obtain rfl : i = l.length := by omega
    have hml : (l.map stC).length = l.length := List.length_map ..
    have hsame : ∀ k, cn (plL k) (l.map stC) = cn (keyL k) (l.map stC) := fun k => one_chip k l
    rw [chg_all]
    generalize hm : l.map stC = m at *
    rw [← hml]
    have hm14 : m.length ≤ 1000 := by omega
    refine FC.x (spread_fc m hm14) [2] (fun r hr => ?_)
    repeat (first | refine And.intro (by kernel_rfl) ?_ | refine And.intro (by decide) ?_)
    refine ALoop.go (X := Nat) (fun k => 1 ≤ k ∧ k ≤ 7) (fun k => 7 - k) [3, 4, 6, 7] [0, 1, 2, 3] (fun k => [(8, int .i64 (k : Int))]) (fun k => [(4, ⟨eB m k, true⟩)]) 1 ⟨Nat.le_refl _, by omega⟩ ⟨rfl, trivial⟩ ⟨.inl rfl, trivial⟩ ?_
    rintro k ⟨hk1, hk7⟩
    dsimp only [headF, headM]
    refine bselD (fun h => ?_) (fun h => ?_)
    · rcases (show k = 1 ∨ k = 2 ∨ k = 3 ∨ k = 4 ∨ k = 5 ∨ k = 6 by omega) with rfl | rfl | rfl | rfl | rfl | rfl <;>
      · refine FC.x (groups_fc _ m hm14) [2] (fun gs hgs => ?_)
        refine And.intro ⟨by decide, by decide⟩ ?_
        repeat (first | refine And.intro (by kernel_rfl) ?_ | refine And.intro (by decide) ?_)
        exact ⟨_, ⟨⟨by decide, by decide⟩, by decide⟩, .id ⟨rfl, trivial⟩ rfl ⟨.inl (by rw [hgs]; rfl), trivial⟩ rfl⟩
    · obtain rfl : k = 7 := by omega
      have en : ∀ q : Nat, q < 7 → eN m 7 q = ((gk (q : Int) m).length : Int) := fun q hq => if_pos hq
      have g : ∀ k : Int, whB k = true → (gk k m).length = cn (plL k) m := fun k hk => by rw [gk_cn hk, hsame]
      have f6 : (r.c6 : Int) = eN m 7 6 := by rw [en 6 (by decide), g _ rfl, hr]; rfl
      have f5 : (r.c5 : Int) = eN m 7 5 := by rw [en 5 (by decide), g _ rfl, hr]; rfl
      have fh : (r.h5 : Int) = r.c5 := by rw [hr]; show ((cn (keyL 5) m : Nat) : Int) = ((cn (plL 5) m : Nat) : Int); rw [hsame]
      have f4 : (r.c4 : Int) = eN m 7 4 := by rw [en 4 (by decide), g _ rfl, hr]; rfl
      have f2 : (r.c2 : Int) = eN m 7 2 := by rw [en 2 (by decide), g _ rfl, hr]; rfl
      have f3 : (r.c3 : Int) = eN m 7 3 := by rw [en 3 (by decide), g _ rfl, hr]; rfl
      have f1 : (r.c1 : Int) = eN m 7 1 := by rw [en 1 (by decide), g _ rfl, hr]; rfl
      repeat (first | refine And.intro (by kernel_rfl) ?_ | refine And.intro (by decide) ?_)
      refine bselE (fun _ => ?_) (fun c => absurd f6 c)
      repeat (first | refine And.intro (by kernel_rfl) ?_ | refine And.intro (by decide) ?_)
      refine bselE (fun _ => ?_) (fun c => absurd f5 c)
      refine bselE (fun _ => ?_) (fun c => absurd fh c)
      repeat (first | refine And.intro (by kernel_rfl) ?_ | refine And.intro (by decide) ?_)
      refine bselE (fun _ => ?_) (fun c => absurd f4 c)
      repeat (first | refine And.intro (by kernel_rfl) ?_ | refine And.intro (by decide) ?_)
      refine bselE (fun _ => ?_) (fun c => absurd f2 c)
      repeat (first | refine And.intro (by kernel_rfl) ?_ | refine And.intro (by decide) ?_)
      refine bselE (fun _ => ?_) (fun c => absurd f3 c)
      repeat (first | refine And.intro (by kernel_rfl) ?_ | refine And.intro (by decide) ?_)
      refine bselE (fun _ => ?_) (fun c => absurd f1 c)
      refine FC.u awake_fc [] ?_
      repeat (first | refine And.intro (by kernel_rfl) ?_ | refine And.intro (by decide) ?_)
      exact ⟨(), trivial, .id rfl ⟨.inl rfl, trivial⟩⟩
end Go.Sx.T1.Counts
namespace Go.Sx.T1.Parts
open Go.Proofs Go.Sx.T1
abbrev kS : List FK := [.i .i64, .i .i64, .i .i64, .i .i64, .i .i64, .i .i64, .i .i64, .i .i64]
theorem hS (r : List Value) (h : fksOk kS r) : ∃ a : Sn, r.map C.v = snC a ∧ True := by
  obtain ⟨_, _, rfl, ⟨p1, rfl, _, _⟩, _, _, rfl, ⟨p2, rfl, _, _⟩, _, _, rfl, ⟨p3, rfl, _, _⟩, _, _, rfl, ⟨p4, rfl, _, _⟩, _, _, rfl, ⟨p5, rfl, _, _⟩, _, _, rfl, ⟨p6, rfl, _, _⟩, _, _, rfl, ⟨c, rfl, _, _⟩, _, _, rfl, ⟨t, rfl, _, _⟩, rfl⟩ := h
  exact ⟨⟨⟨p1, p2, p3, p4, p5, p6⟩, c, t⟩, rfl, trivial⟩
/-- valid for a shape -/
def VaOk (s : S6) (y : Sn) : Prop := vpB s y.p = true ∧ 0 ≤ y.chip ∧ y.chip < 40 ∧ 0 ≤ y.time ∧ y.time ≤ 1099511627776
set_option maxHeartbeats 3200000 in
set_option maxRecDepth 10000 in
theorem valid_fc (s : S6) (y : Sn) : ∃ b : Bool, FC Try.prog 21 [s6S s, snS y] [] (boo b) [] ∧ (b = true ↔ VaOk s y) := by
  refine FC.r mix Try.func21 ?_
  repeat (first | refine And.intro (by kernel_rfl) ?_ | refine And.intro (by decide) ?_)
  refine FC.u (validPlace_fc s y.p) [] ?_
  refine bsel_intro (fun h1 => ?_) (fun h1 => ?_)
  rotate_left
  · repeat (first | refine And.intro (by kernel_rfl) ?_ | refine And.intro (by decide) ?_)
    exact ⟨false, ⟨(fun h => by cases h), fun h => absurd (h.1.symm.trans h1) (by decide)⟩, .id rfl trivial⟩
  repeat (first | refine And.intro (by kernel_rfl) ?_ | refine And.intro (by decide) ?_)
  refine bselD (fun h2 => ?_) (fun h2 => ?_)
  rotate_left
  · repeat (first | refine And.intro (by kernel_rfl) ?_ | refine And.intro (by decide) ?_)
    exact ⟨false, ⟨(fun h => by cases h), fun h => absurd h.2.1 h2⟩, .id rfl trivial⟩
  repeat (first | refine And.intro (by kernel_rfl) ?_ | refine And.intro (by decide) ?_)
  refine bselD (fun h3 => ?_) (fun h3 => ?_)
  rotate_left
  · repeat (first | refine And.intro (by kernel_rfl) ?_ | refine And.intro (by decide) ?_)
    exact ⟨false, ⟨(fun h => by cases h), fun h => absurd h.2.2.1 h3⟩, .id rfl trivial⟩
  repeat (first | refine And.intro (by kernel_rfl) ?_ | refine And.intro (by decide) ?_)
  refine bselD (fun h4 => ?_) (fun h4 => ?_)
  rotate_left
  · repeat (first | refine And.intro (by kernel_rfl) ?_ | refine And.intro (by decide) ?_)
    exact ⟨false, ⟨(fun h => by cases h), fun h => absurd h.2.2.2.1 h4⟩, .id rfl trivial⟩
  repeat (first | refine And.intro (by kernel_rfl) ?_ | refine And.intro (by decide) ?_)
  exact ⟨decide (y.time ≤ 1099511627776), ⟨fun h => ⟨h1, h2, h3, h4, of_decide_eq_true h⟩, fun h => decide_eq_true h.2.2.2.2⟩, .id rfl trivial⟩
theorem vp_sh {s p : S6} (h : shB s = false) : vpB s p = false := by rw [vpB, h]; rfl
set_option maxHeartbeats 3200000 in
set_option maxRecDepth 10000 in
theorem rvalid_fc2 (s : S6) (y : Sn) : ∃ b : Bool, FC Try.prog 22 [s6S s, snS y] [] (boo b) [] ∧ (b = true ↔ VaOk s y) := by
  refine FC.r mix Try.func22 ?_
  repeat (first | refine And.intro (by kernel_rfl) ?_ | refine And.intro (by decide) ?_)
  refine FC.u (rvalid_is s) [] ?_
  refine bsel_intro (fun h0 => ?_) (fun h0 => ?_)
  rotate_left
  · repeat (first | refine And.intro (by kernel_rfl) ?_ | refine And.intro (by decide) ?_)
    exact ⟨false, ⟨(fun h => by cases h), fun h => absurd (h.1.symm.trans (vp_sh h0)) (by decide)⟩, .id rfl trivial⟩
  repeat (first | refine And.intro (by kernel_rfl) ?_ | refine And.intro (by decide) ?_)
  refine FC.u (rvalidPlace_fc s y.p) [] ?_
  refine bsel_intro (fun h1 => ?_) (fun h1 => ?_)
  rotate_left
  · repeat (first | refine And.intro (by kernel_rfl) ?_ | refine And.intro (by decide) ?_)
    exact ⟨false, ⟨(fun h => by cases h), fun h => absurd (h.1.symm.trans h1) (by decide)⟩, .id rfl trivial⟩
  repeat (first | refine And.intro (by kernel_rfl) ?_ | refine And.intro (by decide) ?_)
  refine bselD (fun h2 => ?_) (fun h2 => ?_)
  rotate_left
  · repeat (first | refine And.intro (by kernel_rfl) ?_ | refine And.intro (by decide) ?_)
    exact ⟨false, ⟨(fun h => by cases h), fun h => absurd h.2.1 h2⟩, .id rfl trivial⟩
  repeat (first | refine And.intro (by kernel_rfl) ?_ | refine And.intro (by decide) ?_)
  refine bselD (fun h3 => ?_) (fun h3 => ?_)
  rotate_left
  · repeat (first | refine And.intro (by kernel_rfl) ?_ | refine And.intro (by decide) ?_)
    exact ⟨false, ⟨(fun h => by cases h), fun h => absurd h.2.2.1 h3⟩, .id rfl trivial⟩
  repeat (first | refine And.intro (by kernel_rfl) ?_ | refine And.intro (by decide) ?_)
  refine bselD (fun h4 => ?_) (fun h4 => ?_)
  rotate_left
  · repeat (first | refine And.intro (by kernel_rfl) ?_ | refine And.intro (by decide) ?_)
    exact ⟨false, ⟨(fun h => by cases h), fun h => absurd h.2.2.2.1 h4⟩, .id rfl trivial⟩
  repeat (first | refine And.intro (by kernel_rfl) ?_ | refine And.intro (by decide) ?_)
  exact ⟨decide (y.time ≤ 1099511627776), ⟨fun h => ⟨h1, h2, h3, h4, of_decide_eq_true h⟩, fun h => decide_eq_true h.2.2.2.2⟩, .id rfl trivial⟩
theorem mod_x (n m : Int) (h : m < 9223372036854775808) : ∃ v : Int, FC Try.prog 18 [int .i64 n, int .i64 m] [] (int .i64 v) [] ∧ v = mMod n m := ⟨_, mod_fc n m h, rfl⟩
/-- all sightings that are looked at -/
def zs (x : Sn) (l raw : List Sn) (i : Nat) : Sn := if i < 1 + l.length then (if i < 1 then x else l.getD (i - 1) sn0) else raw.getD (i - (1 + l.length)) sn0
theorem ok_if {c : Prop} [Decidable c] {a b : List C} (ha : c → a.all C.ok = true) (hb : ¬ c → b.all C.ok = true) : (if c then a else b).all C.ok = true := by
  by_cases h : c
  · rw [if_pos h]; exact ha h
  · rw [if_neg h]; exact hb h
theorem zs_row (x : Sn) (l raw : List Sn) {f a b c : Nat → List C} (hf : ∀ i, f i = if i < 1 + l.length then (if 0 + i < 1 then a (0 + (0 + i)) else b (0 + (0 + i - 1))) else c (0 + (i - (1 + l.length)))) (ha : a 0 = snC x) (hb : ∀ i, b i = snC (l.getD i sn0)) (hc : ∀ i, c i = snC (raw.getD i sn0)) :
    ∀ i, i < 1 + l.length + raw.length → f i = snC (zs x l raw i) := by
  intro i _
  rw [hf, zs]
  simp only [Nat.zero_add]
  by_cases h1 : i < 1 + l.length
  · rw [if_pos h1, if_pos h1]
    by_cases h2 : i < 1
    · rw [if_pos h2, if_pos h2]
      obtain rfl : i = 0 := by omega
      exact ha
    · rw [if_neg h2, if_neg h2]; exact hb _
  · rw [if_neg h1, if_neg h1]; exact hc _
theorem gk_row (k : Int) (xs : List Sn) (h : xs.length ≤ 1000) (q : Nat) : ((gk k xs).getD q []).length ≤ 100000 := by
  unfold gk
  split
  · have := gr_row (kys k xs) q
    have e : (kys k xs).length = xs.length := by simp [kys]
    omega
  · exact Nat.zero_le _
theorem lg_len (gs : List (List Int)) (h : ∀ q, (gs.getD q []).length ≤ 100000) : (lgF gs).length ≤ 100000 := by
  have key : ∀ gs : List (List Int), (∀ g ∈ gs, g.length ≤ 100000) → (lgF gs).length ≤ 100000 := by
    refine snoc_ind (fun _ => Nat.zero_le _) fun gs x ih hg => ?_
    rw [lgF_snoc]
    split
    · exact hg x (by simp)
    · exact ih fun g hh => hg g (by simp [hh])
  refine key gs fun g hg => ?_
  obtain ⟨q, hq, e⟩ := List.mem_iff_getElem.1 hg
  have := h q
  simp only [List.getD, List.getElem?_eq_getElem hq, Option.getD_some, e] at this
  exact this
set_option maxHeartbeats 100000000 in
set_option maxRecDepth 10000 in
theorem law (raw : List Sn) (ts : List Int) (kind chip time : Int) : FC Try.prog 7 [.o (.c (.s 0 0 raw.length 8)), .o (.c (.s 1 0 ts.length 1)), int .i64 kind, int .i64 chip, int .i64 time] [snB raw false, diceL ts] (boo true) [snB raw false, diceL ts] := by
  refine FC.one (FC.rj mix Try.func7 ?_)
  refine bselD (fun h => ?_) (fun h60 => ?_)
  · repeat (first | refine And.intro (by kernel_rfl) ?_ | refine And.intro (by decide) ?_)
    refine FC.u awake_fc [] ?_
    exact ⟨(), trivial, .id rfl ⟨.inl rfl, .inl rfl, trivial⟩⟩
  have hr60 : raw.length ≤ 60 := by have h2 : ¬ (raw.length : Int) > 60 := h60; omega
  refine FC.u (light_fc ts) [1] ?_
  refine bselNot (bsel_intro (fun h => ?_) (fun h => ?_))
  rotate_left
  · refine FC.u awake_fc [] ?_
    exact ⟨(), trivial, .id rfl ⟨.inl rfl, .inl rfl, trivial⟩⟩
  have hl : ts.length ≤ 400 := of_decide_eq_true h
  refine FC.u (roll_fc ts) [1] ?_
  refine FC.x (shape_fc ts 0 hl) [2, 1] (fun s hs => ?_)
  repeat (first | refine And.intro (by kernel_rfl) ?_ | refine And.intro (by decide) ?_)
  refine FC.x (seens_fc ts s.k s.p 14 hl hs (Nat.le_refl _)) [2, 1] (fun y hy => ?_)
  obtain ⟨l, kk⟩ := y
  replace hy : l.length ≤ 14 := hy
  repeat (first | refine And.intro (by kernel_rfl) ?_ | refine And.intro (by decide) ?_)
  refine FC.x (mkPlace_fc ts kk s.p hl hs) [2, 1] (fun pl _ => ?_)
  refine FC.x (mod_x chip 3 (by omega)) [] (fun c1 _ => ?_)
  refine FC.x (mod_x time 3 (by omega)) [] (fun c2 _ => ?_)
  repeat (first | refine And.intro (by kernel_rfl) ?_ | refine And.intro (by decide) ?_)
  refine FC.x (mod_x _ 2 (by omega)) [] (fun c3 _ => ?_)
  repeat (first | refine And.intro (by kernel_rfl) ?_ | refine And.intro (by decide) ?_)
  refine And.intro ⟨Nat.le_of_ble_eq_true rfl, fun i hi => (by obtain rfl : i = 0 := Nat.lt_one_iff.1 hi; rfl)⟩ ?_
  refine And.intro ⟨by show 0 + l.length ≤ l.length; omega, fun _ _ => rfl⟩ ?_
  refine And.intro (by show 1 + l.length ≤ 4294967296; omega) ?_
  refine And.intro ⟨by show 0 + (1 + l.length) ≤ 1 + l.length; omega, fun q hq => ?_⟩ ?_
  · exact ok_if (c := 0 + q < 1) (fun hc => (by obtain rfl : q = 0 := (by omega); rfl)) (fun _ => rfl)
  refine And.intro ⟨by show 0 + raw.length ≤ raw.length; omega, fun _ _ => rfl⟩ ?_
  refine And.intro (by show 1 + l.length + raw.length ≤ 4294967296; omega) ?_
  repeat (first | refine And.intro (by kernel_rfl) ?_ | refine And.intro (by decide) ?_)
  refine ALoop.goN (X := Nat) (fun i => i ≤ 1 + l.length + raw.length) (fun i => 1 + l.length + raw.length - i) [0, 2, 12, 13, 58, 59] [0, 1, 3] (fun i => [(60, int .i64 (i : Int))]) (fun _ => [(4, ⟨snK l, true⟩), (8, ⟨.rows 8 (1 + l.length + raw.length) (fun i => snC (zs ⟨pl.p, IntKind.i64.wrap (IntKind.i64.wrap (39 + c1) - 1), IntKind.i64.wrap (IntKind.i64.wrap (c2 - 1) + IntKind.i64.wrap (1099511627776 * c3))⟩ l raw i)), true⟩)]) 0 9 (Nat.zero_le _)
    (.id ⟨rfl, trivial⟩ rfl ⟨.inl rfl, leB.rows (Nat.le_refl _) (zs_row _ l raw (fun _ => rfl) rfl (fun _ => rfl) (fun _ => rfl)) id, trivial⟩ rfl) ?_
  rintro i hi
  dsimp only [headF, headM]
  refine bselD (fun h => ?_) (fun h => ?_)
  · have h2 : (i : Int) < ((1 + l.length + raw.length : Nat) : Int) := h
    clear h
    have h' : i < 1 + l.length + raw.length := by omega
    have wi : IntKind.i64.wrap ((i : Int) + 1) = ((i + 1 : Nat) : Int) := wrap64_in (by omega) (by omega)
    repeat refine AJoin.plain ?_
    refine And.intro ⟨by omega, h2⟩ ?_
    refine And.intro (by show 0 + i < 1 + l.length + raw.length; omega) ?_
    repeat (first | refine And.intro (by kernel_rfl) ?_ | refine And.intro (by decide) ?_)
    refine FC.x (valid_fc s.p (zs ⟨pl.p, IntKind.i64.wrap (IntKind.i64.wrap (39 + c1) - 1), IntKind.i64.wrap (IntKind.i64.wrap (c2 - 1) + IntKind.i64.wrap (1099511627776 * c3))⟩ l raw (0 + i))) [] (fun b1 e1 => ?_)
    refine FC.x (rvalid_fc2 s.p (zs ⟨pl.p, IntKind.i64.wrap (IntKind.i64.wrap (39 + c1) - 1), IntKind.i64.wrap (IntKind.i64.wrap (c2 - 1) + IntKind.i64.wrap (1099511627776 * c3))⟩ l raw (0 + i))) [] (fun b2 e2 => ?_)
    have e12 : b1 = b2 := by rw [Bool.eq_iff_iff, e1, e2]
    subst e12
    clear e1 e2
    repeat (first | refine And.intro (by kernel_rfl) ?_ | refine And.intro (by decide) ?_)
    refine bselF (by simp) ?_
    repeat (first | refine And.intro (by kernel_rfl) ?_ | refine And.intro (by decide) ?_)
    exact ⟨i + 1, ⟨h', by show 1 + l.length + raw.length - (i + 1) < 1 + l.length + raw.length - i; omega⟩, .id ⟨congrArg (int .i64) wi, trivial⟩ rfl ⟨.inl rfl, .inl rfl, trivial⟩ rfl⟩
  have hl14 : l.length ≤ 1000 := by omega
  have hr1000 : raw.length ≤ 1000 := by omega
  clear h
  repeat (first | refine And.intro (by kernel_rfl) ?_ | refine And.intro (by decide) ?_)
  refine ALoop.goN (X := Nat) (fun j => j ≤ 2) (fun j => 2 - j) [2, 74, 75] [0, 1, 4, 9] (fun j => [(76, int .i64 (j : Int))]) (fun _ => []) 0 10 (Nat.zero_le _) (.id ⟨rfl, trivial⟩ rfl trivial rfl) ?_ (hs := fun _ => ⟨Nat.le_of_ble_eq_true rfl, rfl, by repeat' (first | exact trivial | exact rfl | exact fun _ _ => rfl | exact two_cases rfl rfl | refine ⟨?_, ?_⟩)⟩)
  rintro j hj
  dsimp only [headF, headM]
  refine bselD (fun h => ?_) (fun h => ?_)
  rotate_left
  · repeat (first | refine And.intro (by kernel_rfl) ?_ | refine And.intro (by decide) ?_)
    refine FC.u awake_fc [] ?_
    repeat (first | refine And.intro (by kernel_rfl) ?_ | refine And.intro (by decide) ?_)
    exact ⟨(), trivial, .id rfl ⟨.inl rfl, .inl rfl, trivial⟩⟩
  have h2 : (j : Int) < 2 := h
  clear h
  have hj2 : j = 0 ∨ j = 1 := by omega
  clear h2
  rcases hj2 with rfl | rfl
  · refine And.intro ⟨by decide, by decide⟩ ?_
    repeat (first | refine And.intro (by kernel_rfl) ?_ | refine And.intro (by decide) ?_)
    refine FC.x (spread_fc l hl14) [4] (fun r1 f1 => ?_)
    refine FC.x (rspread_fc l hl14) [4] (fun r2 f2 => ?_)
    have f12 : r1 = r2 := f1.trans f2.symm
    subst f12
    clear f1 f2
    repeat (first | refine And.intro (by kernel_rfl) ?_ | refine And.intro (by decide) ?_)
    refine bselF (by simp) ?_
    refine FC.x (common_fc l hl14) [4] (fun a1 f1 => ?_)
    refine FC.x (rcommon_fc l hl14) [4] (fun a2 f2 => ?_)
    have f12 := f1.eq f2
    subst f12
    clear f1 f2
    refine bselN (fun c => absurd rfl c) (fun _ => ?_)
    repeat (first | refine And.intro (by kernel_rfl) ?_ | refine And.intro (by decide) ?_)
    refine ALoop.goN (X := Nat) (fun q => q ≤ 9) (fun q => 9 - q) [2, 18, 74, 75, 76, 93, 94] [0, 1, 4, 9] (fun q => [(95, int .i64 (q : Int))]) (fun _ => [(10, ⟨.ints .i64 [1, 2, 3, 4, 5, 6, 0, 7, kind], true⟩)]) 0 11 (Nat.zero_le _) (.id ⟨rfl, trivial⟩ rfl ⟨.inl rfl, trivial⟩ rfl) ?_ (hs := fun _ => ⟨Nat.le_of_ble_eq_true rfl, rfl, by repeat' (first | exact trivial | exact rfl | exact fun _ _ => rfl | exact two_cases rfl rfl | refine ⟨?_, ?_⟩)⟩)
    rintro q hq
    dsimp only [headF, headM]
    refine bselD (fun h => ?_) (fun h => ?_)
    · have h2 : (q : Int) < 9 := h
      clear h
      have wq : IntKind.i64.wrap ((q : Int) + 1) = ((q + 1 : Nat) : Int) := wrap64_in (by omega) (by omega)
      repeat refine AJoin.plain ?_
      refine And.intro ⟨by omega, h2⟩ ?_
      refine And.intro (by show 0 + q < 9; omega) ?_
      repeat (first | refine And.intro (by kernel_rfl) ?_ | refine And.intro (by decide) ?_)
      refine FC.x (groups_fc (([1, 2, 3, 4, 5, 6, 0, 7, kind] : List Int).getD (0 + q) 0) l hl14) [4] (fun g1 f1 => ?_)
      refine FC.x (rgroups_fc (([1, 2, 3, 4, 5, 6, 0, 7, kind] : List Int).getD (0 + q) 0) l hl14) [4] (fun g2 f2 => ?_)
      have f12 : g1 = g2 := f1.trans f2.symm
      have hgl : g1.length ≤ 100000 := by rw [f1]; have := gk_len (([1, 2, 3, 4, 5, 6, 0, 7, kind] : List Int).getD (0 + q) 0) l; omega
      have hgr : ∀ u, (g1.getD u []).length ≤ 100000 := fun u => by rw [f1]; exact gk_row _ _ hl14 u
      refine FC.x (sameg_fc g1 g2 hgl hgr) [11, 12] (fun c hc => ?_)
      refine bselNot (bsel_intro (fun _ => ?_) (fun h1 => absurd ((hc.2 f12).symm.trans h1) (by decide)))
      refine FC.x (largest_fc (([1, 2, 3, 4, 5, 6, 0, 7, kind] : List Int).getD (0 + q) 0) l hl14) [4] (fun b1 k1 => ?_)
      refine FC.x (rlargest_fc (([1, 2, 3, 4, 5, 6, 0, 7, kind] : List Int).getD (0 + q) 0) l hl14) [4] (fun b2 k2 => ?_)
      have k12 : b1 = b2 := k1.trans k2.symm
      refine FC.x (ints_x b1 b2 (by rw [k1]; exact lg_len _ (fun u => gk_row _ _ hl14 u))) [13, 14] (fun c' hc' => ?_)
      repeat (first | refine And.intro (by kernel_rfl) ?_ | refine And.intro (by decide) ?_)
      refine bselNot (bsel_intro (fun _ => ?_) (fun h1 => absurd ((hc'.2 k12).symm.trans h1) (by decide)))
      refine bselD (fun hz => ?_) (fun hz => ?_)
      · have hz2 : 1 < (l).length := by have h3 : (((l).length : Nat) : Int) > 1 := hz; omega
        clear hz
        refine And.intro ⟨by omega, by show (0 : Int) < (((l).length : Nat) : Int); omega⟩ ?_
        refine And.intro (by show 0 + 0 < (l).length; omega) ?_
        refine And.intro ⟨by omega, by show (1 : Int) < (((l).length : Nat) : Int); omega⟩ ?_
        refine And.intro (by show 0 + 1 < (l).length; omega) ?_
        refine FC.u (same_fc (([1, 2, 3, 4, 5, 6, 0, 7, kind] : List Int).getD (0 + q) 0) ((l).getD (0 + 0) sn0) ((l).getD (0 + 1) sn0)) [] ?_
        refine And.intro ⟨by omega, by show (0 : Int) < (((l).length : Nat) : Int); omega⟩ ?_
        refine And.intro (by show 0 + 0 < (l).length; omega) ?_
        refine And.intro ⟨by omega, by show (1 : Int) < (((l).length : Nat) : Int); omega⟩ ?_
        refine And.intro (by show 0 + 1 < (l).length; omega) ?_
        refine FC.u (rsame_fc (([1, 2, 3, 4, 5, 6, 0, 7, kind] : List Int).getD (0 + q) 0) ((l).getD (0 + 0) sn0) ((l).getD (0 + 1) sn0)) [] ?_
        repeat (first | refine And.intro (by kernel_rfl) ?_ | refine And.intro (by decide) ?_)
        refine bselF (by simp) ?_
        repeat (first | refine And.intro (by kernel_rfl) ?_ | refine And.intro (by decide) ?_)
        exact ⟨q + 1, ⟨by omega, by show 9 - (q + 1) < 9 - q; omega⟩, .id ⟨congrArg (int .i64) wq, trivial⟩ rfl ⟨.inl rfl, trivial⟩ rfl⟩
      · repeat (first | refine And.intro (by kernel_rfl) ?_ | refine And.intro (by decide) ?_)
        exact ⟨q + 1, ⟨by omega, by show 9 - (q + 1) < 9 - q; omega⟩, .id ⟨congrArg (int .i64) wq, trivial⟩ rfl ⟨.inl rfl, trivial⟩ rfl⟩
    · have h2 : ¬ (q : Int) < 9 := h
      clear h
      repeat (first | refine And.intro (by kernel_rfl) ?_ | refine And.intro (by decide) ?_)
      exact ⟨_, ⟨by decide, by decide⟩, .id ⟨rfl, trivial⟩ rfl trivial rfl⟩
  · refine And.intro ⟨by decide, by decide⟩ ?_
    repeat (first | refine And.intro (by kernel_rfl) ?_ | refine And.intro (by decide) ?_)
    refine FC.x (spread_fc raw hr1000) [0] (fun r1 f1 => ?_)
    refine FC.x (rspread_fc raw hr1000) [0] (fun r2 f2 => ?_)
    have f12 : r1 = r2 := f1.trans f2.symm
    subst f12
    clear f1 f2
    repeat (first | refine And.intro (by kernel_rfl) ?_ | refine And.intro (by decide) ?_)
    refine bselF (by simp) ?_
    refine FC.x (common_fc raw hr1000) [0] (fun a1 f1 => ?_)
    refine FC.x (rcommon_fc raw hr1000) [0] (fun a2 f2 => ?_)
    have f12 := f1.eq f2
    subst f12
    clear f1 f2
    refine bselN (fun c => absurd rfl c) (fun _ => ?_)
    repeat (first | refine And.intro (by kernel_rfl) ?_ | refine And.intro (by decide) ?_)
    refine ALoop.goN (X := Nat) (fun q => q ≤ 9) (fun q => 9 - q) [2, 18, 74, 75, 76, 93, 94] [0, 1, 4, 9] (fun q => [(95, int .i64 (q : Int))]) (fun _ => [(10, ⟨.ints .i64 [1, 2, 3, 4, 5, 6, 0, 7, kind], true⟩)]) 0 11 (Nat.zero_le _) (.id ⟨rfl, trivial⟩ rfl ⟨.inl rfl, trivial⟩ rfl) ?_ (hs := fun _ => ⟨Nat.le_of_ble_eq_true rfl, rfl, by repeat' (first | exact trivial | exact rfl | exact fun _ _ => rfl | exact two_cases rfl rfl | refine ⟨?_, ?_⟩)⟩)
    rintro q hq
    dsimp only [headF, headM]
    refine bselD (fun h => ?_) (fun h => ?_)
    · have h2 : (q : Int) < 9 := h
      clear h
      have wq : IntKind.i64.wrap ((q : Int) + 1) = ((q + 1 : Nat) : Int) := wrap64_in (by omega) (by omega)
      repeat refine AJoin.plain ?_
      refine And.intro ⟨by omega, h2⟩ ?_
      refine And.intro (by show 0 + q < 9; omega) ?_
      repeat (first | refine And.intro (by kernel_rfl) ?_ | refine And.intro (by decide) ?_)
      refine FC.x (groups_fc (([1, 2, 3, 4, 5, 6, 0, 7, kind] : List Int).getD (0 + q) 0) raw hr1000) [0] (fun g1 f1 => ?_)
      refine FC.x (rgroups_fc (([1, 2, 3, 4, 5, 6, 0, 7, kind] : List Int).getD (0 + q) 0) raw hr1000) [0] (fun g2 f2 => ?_)
      have f12 : g1 = g2 := f1.trans f2.symm
      have hgl : g1.length ≤ 100000 := by rw [f1]; have := gk_len (([1, 2, 3, 4, 5, 6, 0, 7, kind] : List Int).getD (0 + q) 0) raw; omega
      have hgr : ∀ u, (g1.getD u []).length ≤ 100000 := fun u => by rw [f1]; exact gk_row _ _ hr1000 u
      refine FC.x (sameg_fc g1 g2 hgl hgr) [11, 12] (fun c hc => ?_)
      refine bselNot (bsel_intro (fun _ => ?_) (fun h1 => absurd ((hc.2 f12).symm.trans h1) (by decide)))
      refine FC.x (largest_fc (([1, 2, 3, 4, 5, 6, 0, 7, kind] : List Int).getD (0 + q) 0) raw hr1000) [0] (fun b1 k1 => ?_)
      refine FC.x (rlargest_fc (([1, 2, 3, 4, 5, 6, 0, 7, kind] : List Int).getD (0 + q) 0) raw hr1000) [0] (fun b2 k2 => ?_)
      have k12 : b1 = b2 := k1.trans k2.symm
      refine FC.x (ints_x b1 b2 (by rw [k1]; exact lg_len _ (fun u => gk_row _ _ hr1000 u))) [13, 14] (fun c' hc' => ?_)
      repeat (first | refine And.intro (by kernel_rfl) ?_ | refine And.intro (by decide) ?_)
      refine bselNot (bsel_intro (fun _ => ?_) (fun h1 => absurd ((hc'.2 k12).symm.trans h1) (by decide)))
      refine bselD (fun hz => ?_) (fun hz => ?_)
      · have hz2 : 1 < (raw).length := by have h3 : (((raw).length : Nat) : Int) > 1 := hz; omega
        clear hz
        refine And.intro ⟨by omega, by show (0 : Int) < (((raw).length : Nat) : Int); omega⟩ ?_
        refine And.intro (by show 0 + 0 < (raw).length; omega) ?_
        refine And.intro ⟨by omega, by show (1 : Int) < (((raw).length : Nat) : Int); omega⟩ ?_
        refine And.intro (by show 0 + 1 < (raw).length; omega) ?_
        refine FC.u (same_fc (([1, 2, 3, 4, 5, 6, 0, 7, kind] : List Int).getD (0 + q) 0) ((raw).getD (0 + 0) sn0) ((raw).getD (0 + 1) sn0)) [] ?_
        refine And.intro ⟨by omega, by show (0 : Int) < (((raw).length : Nat) : Int); omega⟩ ?_
        refine And.intro (by show 0 + 0 < (raw).length; omega) ?_
        refine And.intro ⟨by omega, by show (1 : Int) < (((raw).length : Nat) : Int); omega⟩ ?_
        refine And.intro (by show 0 + 1 < (raw).length; omega) ?_
        refine FC.u (rsame_fc (([1, 2, 3, 4, 5, 6, 0, 7, kind] : List Int).getD (0 + q) 0) ((raw).getD (0 + 0) sn0) ((raw).getD (0 + 1) sn0)) [] ?_
        repeat (first | refine And.intro (by kernel_rfl) ?_ | refine And.intro (by decide) ?_)
        refine bselF (by simp) ?_
        repeat (first | refine And.intro (by kernel_rfl) ?_ | refine And.intro (by decide) ?_)
        exact ⟨q + 1, ⟨by omega, by show 9 - (q + 1) < 9 - q; omega⟩, .id ⟨congrArg (int .i64) wq, trivial⟩ rfl ⟨.inl rfl, trivial⟩ rfl⟩
      · repeat (first | refine And.intro (by kernel_rfl) ?_ | refine And.intro (by decide) ?_)
        exact ⟨q + 1, ⟨by omega, by show 9 - (q + 1) < 9 - q; omega⟩, .id ⟨congrArg (int .i64) wq, trivial⟩ rfl ⟨.inl rfl, trivial⟩ rfl⟩
    · have h2 : ¬ (q : Int) < 9 := h
      clear h
      repeat (first | refine And.intro (by kernel_rfl) ?_ | refine And.intro (by decide) ?_)
      exact ⟨_, ⟨by decide, by decide⟩, .id ⟨rfl, trivial⟩ rfl trivial rfl⟩
end Go.Sx.T1.Parts
