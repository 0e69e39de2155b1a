/- Contracts of the functions that PatternNested reaches, and the walk of the law, part 1. Conditions: none. -/
import Derived.Test.YtcnednlaaigagaaSxThree
import Derived.Test.YtcnednlaaigagaaChecked
namespace Go.Sx.T1
open Go.Proofs

theorem mix : Try.prog.follows .mixedOrders = true := by kernel_rfl

def mMod (n m : Int) : Int := if m < 1 then 0 else n % m

theorem tmod_fix (n m : Int) (h : 1 ≤ m) : (n.tmod m < 0 → n.tmod m + m = n % m) ∧ (¬ n.tmod m < 0 → n.tmod m = n % m) := by
  have h1 := Int.emod_lt_of_pos n (show 0 < m by omega)
  have h2 := Int.emod_nonneg n (show m ≠ 0 by omega)
  rw [Int.tmod_eq_emod]
  split <;> omega

set_option maxRecDepth 10000 in
theorem mod_fc (n m : Int) (hm : m < 9223372036854775808) : FC Try.prog 18 [int .i64 n, int .i64 m] [] (int .i64 (mMod n m)) [] := by
  refine FC.b mix Try.func18 ?_
  refine bselD (fun h => ?_) (fun h => ?_)
  · exact ⟨congrArg (int .i64) (by simp [mMod, h]), trivial⟩
  · refine ⟨by omega, ?_⟩
    have hlt := Int.tmod_lt_of_pos n (show 0 < m by omega)
    have hgt := Int.lt_tmod_of_pos n (show 0 < m by omega)
    have e := tmod_fix n m (by omega)
    refine bselD (fun h2 => ?_) (fun h2 => ?_)
    · refine ⟨congrArg (int .i64) ?_, trivial⟩
      rw [wrap64_in (by omega) (by omega)]
      simp only [mMod, h, if_false]
      exact e.1 h2
    · exact ⟨congrArg (int .i64) (by simp [mMod, h]; exact e.2 h2), trivial⟩

/-- the dice: name 0 the two fields, name 1 the numbers; k numbers have been asked for -/
def diceB (ts : List Int) (k : Nat) : Option Blk := some ⟨.box [.s 1 0 ts.length 1, .v (.int .i64 (min k ts.length : Nat))], true⟩
def diceL (ts : List Int) : Option Blk := some ⟨.ints .i64 ts, false⟩
def dv (ts : List Int) (k : Nat) (n : Int) : Int := mMod (ts.getD k 0) n

set_option maxRecDepth 10000 in
theorem next_fc (ts : List Int) (k : Nat) (n : Int) (hn : n < 9223372036854775808) (hl : ts.length ≤ 400) :
    FC Try.prog 30 [.o (.c (.p 0 0 0)), int .i64 n] [diceB ts k, diceL ts] (int .i64 (dv ts k n)) [diceB ts (k + 1), diceL ts] := by
  refine FC.b mix Try.func30 ?_
  refine ⟨by kernel_rfl, ?_⟩
  refine bselD (fun h => ?_) (fun h => ?_)
  · have h' : ts.length ≤ k := by omega
    refine ⟨congrArg (int .i64) ?_, congrArg some ?_, rfl, trivial⟩
    · simp [dv, h', mMod]
    · simp [Nat.min_eq_right h', Nat.min_eq_right (Nat.le_succ_of_le h')]
  · have h' : k < ts.length := by omega
    have e : min k ts.length = k := Nat.min_eq_left (by omega)
    have e2 : min (k + 1) ts.length = k + 1 := Nat.min_eq_left (by omega)
    have w1 : IntKind.i64.wrap ((k : Int) + 1) = (k : Int) + 1 := wrap64_in (by omega) (by omega)
    have w2 : IntKind.i64.wrap ((k : Int) + 1 - 1) = (k : Int) := by rw [wrap64_in (by omega) (by omega)]; omega
    skip
    refine ⟨⟨?_, ?_⟩, ?_, ?_⟩
    · rw [e, w1, w2]; omega
    · rw [e, w1, w2]; omega
    · rw [e, w1, w2]; omega
    refine FC.use (mod_fc (ts.getD k 0) n hn) [] (congrArg (fun x => [int .i64 (ts.getD x 0), int .i64 n]) ?_) rfl trivial rfl rfl trivial ?_
    · rw [e, w1, w2]; simp
    refine ⟨by kernel_rfl, ?_⟩
    refine ⟨congrArg (int .i64) ?_, congrArg some ?_, rfl, trivial⟩
    · rfl
    · rw [e, w1, e2]; rfl
end Go.Sx.T1
namespace Go.Sx.T1
open Go.Proofs
set_option maxRecDepth 10000 in
theorem light_fc (ts : List Int) : FC Try.prog 8 [.o (.c (.s 0 0 ts.length 1))] [diceL ts] (boo (decide (ts.length ≤ 400))) [diceL ts] := by
  refine FC.b mix Try.func8 ?_
  exact ⟨congrArg boo (show decide ((ts.length : Int) ≤ 400) = decide (ts.length ≤ 400) by rw [Bool.eq_iff_iff]; simp; omega), rfl, trivial⟩
set_option maxRecDepth 10000 in
theorem roll_fc (ts : List Int) : FC Try.prog 10 [.o (.c (.s 0 0 ts.length 1))] [diceL ts] (.o (.c (.p 1 0 0))) [diceL ts, some ⟨.box [.s 0 0 ts.length 1, .v (.int .i64 0)], true⟩] := by
  refine FC.b mix Try.func10 ?_
  exact ⟨rfl, rfl, rfl, trivial⟩
theorem mMod_bd {n m : Int} (h : 1 ≤ m) : 0 ≤ mMod n m ∧ mMod n m < m := by
  unfold mMod
  rw [if_neg (by omega)]
  exact ⟨Int.emod_nonneg n (by omega), Int.emod_lt_of_pos n (by omega)⟩
theorem dv_bd (ts : List Int) (k : Nat) {n : Int} (h : 1 ≤ n) : 0 ≤ dv ts k n ∧ dv ts k n < n := mMod_bd h

theorem next_x (ts : List Int) (k : Nat) (n : Int) (hn : n < 9223372036854775808) (hl : ts.length ≤ 400) :
    ∃ v, FC Try.prog 30 [.o (.c (.p 0 0 0)), int .i64 n] [diceB ts k, diceL ts] (int .i64 v) [diceB ts (k + 1), diceL ts] ∧ v = dv ts k n := ⟨_, next_fc ts k n hn hl, rfl⟩
def u8s (xs : List Int) (wr : Bool) : Option Blk := some ⟨.ints .u8 xs, wr⟩
def i64s (xs : List Int) (wr : Bool) : Option Blk := some ⟨.ints .i64 xs, wr⟩
theorem newI (sz : Nat) {k : IntKind} (h : sz = 1) : Bk.fits (.ints k []) sz ∧ Bk.need (.ints k []) = 0 := ⟨.inr ⟨h, Nat.le_refl 1, fun _ h => absurd h (Nat.not_lt_zero _)⟩, rfl⟩
end Go.Sx.T1
namespace Go.Sx.T1
open Go.Proofs
structure S6 where
  a : Int
  b : Int
  c : Int
  d : Int
  e : Int
  f : Int
def S6.get (s : S6) : Nat → Int
  | 0 => s.a
  | 1 => s.b
  | 2 => s.c
  | 3 => s.d
  | 4 => s.e
  | _ => s.f
def s6C (s : S6) : List C := [.v (.int .i64 s.a), .v (.int .i64 s.b), .v (.int .i64 s.c), .v (.int .i64 s.d), .v (.int .i64 s.e), .v (.int .i64 s.f)]
def s6S (s : S6) : SV := .o (.a (s6C s))
def sumTo (s : S6) : Nat → Int
  | 0 => 0
  | i + 1 => sumTo s i + s.get i
def ShV (s : S6) : Prop := (∀ j, j < 6 → 0 ≤ s.get j ∧ s.get j ≤ 12) ∧ sumTo s 6 ≤ 12
theorem sumTo_bd {s : S6} : ∀ i, (∀ j, j < i → 0 ≤ s.get j ∧ s.get j ≤ 12) → 0 ≤ sumTo s i ∧ sumTo s i ≤ 12 * i
  | 0, _ => by simp [sumTo]
  | i + 1, h => by
    have h1 := sumTo_bd i fun j hj => h j (by omega)
    have h2 := h i (by omega)
    simp only [sumTo]
    omega
set_option maxHeartbeats 3200000 in
set_option maxRecDepth 10000 in
theorem widths_fc (s : S6) : FC Try.prog 44 [s6S s] [] (s6S s) [] := by
  refine FC.one (FC.r mix Try.func44 ?_)
  exact ⟨(), trivial, .id rfl trivial⟩
set_option maxHeartbeats 3200000 in
set_option maxRecDepth 10000 in
theorem bits_fc (s : S6) : FC Try.prog 46 [s6S s] [] (s6S s) [] := by
  refine FC.one (FC.r mix Try.func46 ?_)
  exact ⟨(), trivial, .id rfl trivial⟩
theorem below6 {i : Nat} (h : i < 6) : i = 0 ∨ i = 1 ∨ i = 2 ∨ i = 3 ∨ i = 4 ∨ i = 5 := by omega
set_option maxHeartbeats 3200000 in
set_option maxRecDepth 10000 in
theorem pvalid_fc (s : S6) : ∃ b : Bool, FC Try.prog 43 [s6S s] [] (boo b) [] ∧ (b = true ↔ ShV s) := by
  refine FC.rj mix Try.func43 ?_
  refine FC.u (widths_fc s) [] ?_
  refine ALoop.go (X := Nat) (fun i => i ≤ 6 ∧ ∀ j, j < i → 0 ≤ s.get j ∧ s.get j ≤ 12) (fun i => 6 - i) [7] [] (fun i => [(3, int .i64 (sumTo s i)), (8, int .i64 i)])
    (fun _ => []) 0 ⟨Nat.zero_le _, fun j h => absurd h (Nat.not_lt_zero _)⟩ ⟨rfl, rfl, trivial⟩ trivial ?_
  rintro i ⟨hi, ha⟩
  dsimp only [headF, headM]
  refine bselD (fun h => ?_) (fun h => ?_)
  · have h' : i < 6 := by have : (i : Int) < 6 := h; omega
    have wi : IntKind.i64.wrap ((i : Int) + 1) = ((i + 1 : Nat) : Int) := wrap64_in (by omega) (by omega)
    have bad : (0 ≤ s.get i ∧ s.get i ≤ 12 → False) → (false = true ↔ ShV s) := fun hb => ⟨fun h => (by cases h), fun v => (hb (v.1 i h')).elim⟩
    have bd := sumTo_bd i ha
    have nxt : 0 ≤ s.get i ∧ s.get i ≤ 12 → (∀ j, j < i + 1 → 0 ≤ s.get j ∧ s.get j ≤ 12) ∧ IntKind.i64.wrap (sumTo s i + s.get i) = sumTo s (i + 1) := fun h => by
      refine ⟨fun j hj => ?_, wrap64_in (by omega) (by omega)⟩
      rcases Nat.lt_or_ge j i with h' | h'
      · exact ha j h'
      · obtain rfl : j = i := by omega
        exact h
    repeat refine AJoin.plain ?_
    rcases below6 h' with rfl | rfl | rfl | rfl | rfl | rfl <;>
    · refine And.intro ⟨by decide, by decide⟩ ?_
      refine bselD (fun c1 => ?_) (fun c1 => bselD (fun c2 => ?_) (fun c2 => ?_))
      · exact ⟨false, bad fun h => by have c1' := c1; exact absurd h.1 (Int.not_le.2 c1'), .id rfl trivial⟩
      · exact ⟨false, bad fun h => by have c2' := c2; exact absurd c2' (Int.not_lt.2 h.2), .id rfl trivial⟩
      · obtain ⟨n1, n2⟩ := nxt ⟨Int.not_lt.1 c1, Int.not_lt.1 c2⟩
        exact ⟨_, ⟨⟨by decide, n1⟩, by decide⟩, .id ⟨congrArg (int .i64) n2, congrArg (int .i64) wi, trivial⟩ rfl trivial rfl⟩
  · obtain rfl : i = 6 := by have : ¬ (i : Int) < 6 := h; omega
    refine ⟨decide (sumTo s 6 ≤ 12), ?_, .id rfl trivial⟩
    show decide (sumTo s 6 ≤ 12) = true ↔ ShV s
    rw [decide_eq_true_iff]
    exact ⟨fun h => ⟨ha, h⟩, fun v => v.2⟩
end Go.Sx.T1
namespace Go.Sx.T1
open Go.Proofs
def u64s (xs : List Int) (wr : Bool) : Option Blk := some ⟨.ints .u64 xs, wr⟩
structure MapR where
  s : S6
  M : List Int
  lo : Int
  hi : Int
def mC (m : MapR) (n : Nat) : List C := [.v (.int .i64 m.s.a), .v (.int .i64 m.s.b), .v (.int .i64 m.s.c), .v (.int .i64 m.s.d), .v (.int .i64 m.s.e), .v (.int .i64 m.s.f), .s n 0 m.M.length 1, .v (.int .i64 m.lo), .v (.int .i64 m.hi)]
def mS (m : MapR) (n : Nat) : SV := .o (.a (mC m n))
set_option maxHeartbeats 3200000 in
set_option maxRecDepth 10000 in
theorem rvalid_fc (s : S6) : ∃ b : Bool, FC Try.prog 39 [s6S s] [] (boo b) [] ∧ (b = true ↔ ShV s) := by
  refine FC.rj mix Try.func39 ?_
  refine FC.u (bits_fc s) [] ?_
  refine ALoop.go (X := Nat) (fun i => i ≤ 6 ∧ ∀ j, j < i → 0 ≤ s.get j ∧ s.get j ≤ 12) (fun i => 6 - i) [3] [1] (fun i => [(4, int .i64 (sumTo s i)), (5, int .i64 i)])
    (fun _ => []) 0 ⟨Nat.zero_le _, fun j h => absurd h (Nat.not_lt_zero _)⟩ ⟨rfl, rfl, trivial⟩ trivial ?_
  rintro i ⟨hi, ha⟩
  dsimp only [headF, headM]
  refine bselD (fun h => ?_) (fun h => ?_)
  · have h' : i < 6 := by have : (i : Int) < 6 := h; omega
    have wi : IntKind.i64.wrap ((i : Int) + 1) = ((i + 1 : Nat) : Int) := wrap64_in (by omega) (by omega)
    have bad : (0 ≤ s.get i ∧ s.get i ≤ 12 → False) → (false = true ↔ ShV s) := fun hb => ⟨fun h => (by cases h), fun v => (hb (v.1 i h')).elim⟩
    have bd := sumTo_bd i ha
    have nxt : 0 ≤ s.get i ∧ s.get i ≤ 12 → (∀ j, j < i + 1 → 0 ≤ s.get j ∧ s.get j ≤ 12) ∧ IntKind.i64.wrap (sumTo s i + s.get i) = sumTo s (i + 1) := fun h => by
      refine ⟨fun j hj => ?_, wrap64_in (by omega) (by omega)⟩
      rcases Nat.lt_or_ge j i with h' | h'
      · exact ha j h'
      · obtain rfl : j = i := by omega
        exact h
    repeat refine AJoin.plain ?_
    rcases below6 h' with rfl | rfl | rfl | rfl | rfl | rfl <;>
    · refine And.intro ⟨by decide, by decide⟩ ?_
      refine bselD (fun c1 => ?_) (fun c1 => ?_)
      · exact ⟨false, bad fun h => by have c1' := c1; exact absurd h.1 (Int.not_le.2 c1'), .id rfl trivial⟩
      · refine And.intro ⟨by decide, by decide⟩ ?_
        refine bselD (fun c2 => ?_) (fun c2 => ?_)
        · exact ⟨false, bad fun h => by have c2' := c2; exact absurd c2' (Int.not_lt.2 h.2), .id rfl trivial⟩
        · repeat refine AJoin.plain ?_
          refine And.intro ⟨by decide, by decide⟩ ?_
          obtain ⟨n1, n2⟩ := nxt ⟨Int.not_lt.1 c1, Int.not_lt.1 c2⟩
          exact ⟨_, ⟨⟨by decide, n1⟩, by decide⟩, .id ⟨congrArg (int .i64) n2, congrArg (int .i64) wi, trivial⟩ rfl trivial rfl⟩
  · obtain rfl : i = 6 := by have : ¬ (i : Int) < 6 := h; omega
    refine ⟨decide (sumTo s 6 ≤ 12), ?_, .id rfl trivial⟩
    show decide (sumTo s 6 ≤ 12) = true ↔ ShV s
    rw [decide_eq_true_iff]
    exact ⟨fun h => ⟨ha, h⟩, fun v => v.2⟩
def LimV (m : MapR) : Prop := 0 ≤ m.lo ∧ m.lo ≤ 1048576 ∧ 0 ≤ m.hi ∧ m.hi ≤ 1048576
end Go.Sx.T1
namespace Go.Sx.T1
open Go.Proofs
set_option maxHeartbeats 3200000 in
set_option maxRecDepth 10000 in
theorem numbers_fc (s : S6) : FC Try.prog 45 [s6S s] [] (s6S s) [] := by
  refine FC.one (FC.r mix Try.func45 ?_)
  repeat (first | refine And.intro (by kernel_rfl) ?_ | refine And.intro (by decide) ?_)
  exact ⟨(), trivial, .id rfl trivial⟩
def shB (s : S6) : Bool := ((List.range 6).all fun j => decide (0 ≤ s.get j) && decide (s.get j ≤ 12)) && decide (sumTo s 6 ≤ 12)
theorem shB_iff {s : S6} : shB s = true ↔ ShV s := by
  simp only [shB, Bool.and_eq_true, List.all_eq_true, List.mem_range, decide_eq_true_eq]
  exact Iff.rfl
theorem pvalid_is (s : S6) : FC Try.prog 43 [s6S s] [] (boo (shB s)) [] := by
  obtain ⟨b, h, e⟩ := pvalid_fc s
  have : b = shB s := by rw [Bool.eq_iff_iff, e, shB_iff]
  rw [← this]; exact h
def wN (s : S6) (i : Nat) : Nat := (s.get i).toNat
theorem pow_small {n : Nat} (h : n ≤ 12) : 1 ≤ 2 ^ n ∧ 2 ^ n ≤ 4096 := ⟨Nat.one_le_two_pow, Nat.pow_le_pow_right (n := 2) (by omega) h⟩
theorem toNI {p : Nat} (h : p ≤ 64) : min (p : Int).toNat IntKind.i64.bits = p := by rw [Int.toNat_natCast]; exact Nat.min_eq_left h
theorem shrI (x : Nat) {k : Nat} (hk : k ≤ 64) : (x : Int).fdiv (2 ^ min (k : Int).toNat IntKind.i64.bits) = ((x / 2 ^ k : Nat) : Int) := by
  rw [toNI hk]; exact fdiv_nat x k
def zero6 : S6 := ⟨0, 0, 0, 0, 0, 0⟩
theorem wN_is {s : S6} (h : ShV s) {i : Nat} (hi : i < 6) : s.get i = ((wN s i : Nat) : Int) ∧ wN s i ≤ 12 := by
  have := h.1 i hi
  unfold wN
  omega
theorem pow_i64 (b : Nat) (hb : b ≤ 12) : IntKind.i64.wrap (1 * 2 ^ min (IntKind.u64.wrap (b : Int)).toNat IntKind.i64.bits) = ((2 ^ b : Nat) : Int) ∧ 2 ^ b ≤ 4096 ∧ 1 ≤ 2 ^ b := by
  have : ∀ j : Fin 13, IntKind.i64.wrap (1 * 2 ^ min (j.val : Int).toNat IntKind.i64.bits) = ((2 ^ j.val : Nat) : Int) ∧ 2 ^ j.val ≤ 4096 ∧ 1 ≤ 2 ^ j.val := by decide +kernel
  rw [show IntKind.u64.wrap (b : Int) = b from wrapU64_in (by omega) (by omega)]
  exact this ⟨b, by omega⟩
def vpB (s p : S6) : Bool := shB s && (List.range 6).all fun j => decide (0 ≤ p.get j) && decide (p.get j < ((2 ^ wN s j : Nat) : Int))
theorem vpB_iff {s p : S6} : vpB s p = true ↔ ShV s ∧ ∀ j, j < 6 → 0 ≤ p.get j ∧ p.get j < ((2 ^ wN s j : Nat) : Int) := by
  simp only [vpB, Bool.and_eq_true, shB_iff, List.all_eq_true, List.mem_range, decide_eq_true_eq]
/-- no bit beyond -/
theorem fdiv_zero {x : Int} {w : Nat} (hx : 0 ≤ x) (hw : w ≤ 12) : x.fdiv (2 ^ min ((w : Nat) : Int).toNat IntKind.i64.bits) = 0 ↔ x < ((2 ^ w : Nat) : Int) := by
  obtain ⟨n, rfl⟩ : ∃ n : Nat, x = n := ⟨x.toNat, by omega⟩
  have hp := Nat.two_pow_pos w
  rw [shrI n (by omega)]
  constructor
  · intro h
    have : n / 2 ^ w = 0 := by omega
    have := (Nat.div_eq_zero_iff_lt hp).1 this
    exact Int.ofNat_lt.2 this
  · intro h
    have : n < 2 ^ w := Int.ofNat_lt.1 h
    rw [Nat.div_eq_of_lt this]; rfl
set_option maxHeartbeats 3200000 in
set_option maxRecDepth 10000 in
theorem validPlace_fc (s p : S6) : FC Try.prog 38 [s6S s, s6S p] [] (boo (vpB s p)) [] := by
  refine FC.one (FC.rj mix Try.func38 ?_)
  repeat (first | refine And.intro (by kernel_rfl) ?_ | refine And.intro (by decide) ?_)
  refine FC.u (pvalid_is s) [] ?_
  refine bselNot (bsel_intro (fun h1 => ?_) (fun h1 => ?_))
  rotate_left
  · repeat (first | refine And.intro (by kernel_rfl) ?_ | refine And.intro (by decide) ?_)
    exact ⟨(), trivial, .id (congrArg boo (by rw [vpB, h1]; rfl)) trivial⟩
  have hv := shB_iff.1 h1
  repeat refine AJoin.plain ?_
  refine FC.u (widths_fc s) [] ?_
  repeat refine AJoin.plain ?_
  refine FC.u (numbers_fc p) [] ?_
  refine ALoop.go (X := Nat) (fun i => i ≤ 6 ∧ ∀ j, j < i → 0 ≤ p.get j ∧ p.get j < ((2 ^ wN s j : Nat) : Int)) (fun i => 6 - i) [5, 14] [2] (fun i => [(15, int .i64 i)]) (fun _ => []) 0 ⟨Nat.zero_le _, fun j h => by omega⟩ ⟨rfl, trivial⟩ trivial ?_
  rintro i ⟨hi, ha⟩
  dsimp only [headF, headM]
  refine bselD (fun h => ?_) (fun h => ?_)
  · have h' : i < 6 := by omega
    have wi : IntKind.i64.wrap ((i : Int) + 1) = ((i + 1 : Nat) : Int) := wrap64_in (by omega) (by omega)
    obtain ⟨ge, gle⟩ := wN_is hv h'
    have g0 : 0 ≤ s.get i := by omega
    have fz : 0 ≤ p.get i → ((p.get i).fdiv (2 ^ min (s.get i).toNat IntKind.i64.bits) = 0 ↔ p.get i < ((2 ^ wN s i : Nat) : Int)) := fun h0 => by rw [ge]; exact fdiv_zero h0 gle
    have bad : ¬ (0 ≤ p.get i ∧ p.get i < ((2 ^ wN s i : Nat) : Int)) → vpB s p = false := fun hb => by
      cases hvp : vpB s p with
      | false => rfl
      | true => exact absurd ((vpB_iff.1 hvp).2 i h') hb
    have nxt : 0 ≤ p.get i ∧ p.get i < ((2 ^ wN s i : Nat) : Int) → i + 1 ≤ 6 ∧ ∀ j, j < i + 1 → 0 ≤ p.get j ∧ p.get j < ((2 ^ wN s j : Nat) : Int) := fun hb => ⟨h', fun j hj => by
      rcases Nat.lt_or_ge j i with h1 | h1
      · exact ha j h1
      · obtain rfl : j = i := by omega
        exact hb⟩
    repeat refine AJoin.plain ?_
    rcases below6 h' with rfl | rfl | rfl | rfl | rfl | rfl <;>
    · refine And.intro ⟨by decide, by decide⟩ ?_
      refine bselD (fun c1 => ?_) (fun c1 => ?_)
      · repeat (first | refine And.intro (by kernel_rfl) ?_ | refine And.intro (by decide) ?_)
        exact ⟨(), trivial, .id (congrArg boo (bad fun hb => absurd hb.1 (Int.not_le.2 c1)).symm) trivial⟩
      refine And.intro ⟨by decide, by decide⟩ ?_
      refine And.intro g0 ?_
      refine bselN (fun c2 => ?_) (fun c2 => ?_)
      · repeat (first | refine And.intro (by kernel_rfl) ?_ | refine And.intro (by decide) ?_)
        exact ⟨(), trivial, .id (congrArg boo (bad fun hb => c2 ((fz hb.1).2 hb.2)).symm) trivial⟩
      · repeat refine AJoin.plain ?_
        exact ⟨_, ⟨nxt ⟨Int.not_lt.1 c1, (fz (Int.not_lt.1 c1)).1 c2⟩, by decide⟩, .id ⟨congrArg (int .i64) wi, trivial⟩ rfl trivial rfl⟩
  · obtain rfl : i = 6 := by omega
    repeat (first | refine And.intro (by kernel_rfl) ?_ | refine And.intro (by decide) ?_)
    exact ⟨(), trivial, .id (congrArg boo (vpB_iff.2 ⟨hv, ha⟩).symm) trivial⟩
theorem rvalid_is (s : S6) : FC Try.prog 39 [s6S s] [] (boo (shB s)) [] := by
  obtain ⟨b, h, e⟩ := rvalid_fc s
  have : b = shB s := by rw [Bool.eq_iff_iff, e, shB_iff]
  rw [← this]; exact h
set_option maxHeartbeats 3200000 in
set_option maxRecDepth 10000 in
theorem rnumbers_fc (s : S6) : FC Try.prog 47 [s6S s] [] (s6S s) [] := by
  refine FC.one (FC.r mix Try.func47 ?_)
  repeat (first | refine And.intro (by kernel_rfl) ?_ | refine And.intro (by decide) ?_)
  exact ⟨(), trivial, .id rfl trivial⟩
theorem wid_pow {s : S6} (hv : ShV s) {i : Nat} (hi : i < 6) : IntKind.i64.wrap (1 * 2 ^ min (IntKind.u64.wrap (s.get i)).toNat IntKind.i64.bits) = ((2 ^ wN s i : Nat) : Int) ∧ 0 ≤ IntKind.u64.wrap (s.get i) := by
  obtain ⟨ge, gle⟩ := wN_is hv hi
  rw [ge]
  refine ⟨(pow_i64 (wN s i) gle).1, ?_⟩
  rw [wrapU64_in (by omega) (by omega)]; omega
set_option maxHeartbeats 3200000 in
set_option maxRecDepth 10000 in
theorem rvalidPlace_fc (s p : S6) : FC Try.prog 40 [s6S s, s6S p] [] (boo (vpB s p)) [] := by
  refine FC.one (FC.rj mix Try.func40 ?_)
  repeat (first | refine And.intro (by kernel_rfl) ?_ | refine And.intro (by decide) ?_)
  refine FC.u (rvalid_is s) [] ?_
  refine bselNot (bsel_intro (fun h1 => ?_) (fun h1 => ?_))
  rotate_left
  · repeat (first | refine And.intro (by kernel_rfl) ?_ | refine And.intro (by decide) ?_)
    exact ⟨(), trivial, .id (congrArg boo (by rw [vpB, h1]; rfl)) trivial⟩
  have hv := shB_iff.1 h1
  repeat refine AJoin.plain ?_
  refine FC.u (bits_fc s) [] ?_
  repeat refine AJoin.plain ?_
  refine FC.u (rnumbers_fc p) [] ?_
  repeat (first | refine And.intro (by kernel_rfl) ?_ | refine And.intro (by decide) ?_)
  refine ALoop.go (X := Nat) (fun i => i ≤ 6 ∧ ∀ j, j < i → 0 ≤ p.get j ∧ p.get j < ((2 ^ wN s j : Nat) : Int)) (fun i => 6 - i) [5, 6] [2, 3] (fun i => [(7, int .i64 i)]) (fun _ => []) 0 ⟨Nat.zero_le _, fun j h => by omega⟩ ⟨rfl, trivial⟩ trivial ?_
  rintro i ⟨hi, ha⟩
  dsimp only [headF, headM]
  refine bselD (fun h => ?_) (fun h => ?_)
  · have h' : i < 6 := by omega
    have wi : IntKind.i64.wrap ((i : Int) + 1) = ((i + 1 : Nat) : Int) := wrap64_in (by omega) (by omega)
    obtain ⟨wp, wu⟩ := wid_pow hv h'
    have bad : ¬ (0 ≤ p.get i ∧ p.get i < ((2 ^ wN s i : Nat) : Int)) → vpB s p = false := fun hb => by
      cases hvp : vpB s p with
      | false => rfl
      | true => exact absurd ((vpB_iff.1 hvp).2 i h') hb
    have nxt : 0 ≤ p.get i ∧ p.get i < ((2 ^ wN s i : Nat) : Int) → i + 1 ≤ 6 ∧ ∀ j, j < i + 1 → 0 ≤ p.get j ∧ p.get j < ((2 ^ wN s j : Nat) : Int) := fun hb => ⟨h', fun j hj => by
      rcases Nat.lt_or_ge j i with h1 | h1
      · exact ha j h1
      · obtain rfl : j = i := by omega
        exact hb⟩
    repeat refine AJoin.plain ?_
    rcases below6 h' with rfl | rfl | rfl | rfl | rfl | rfl <;>
    · refine And.intro ⟨by decide, by decide⟩ ?_
      refine bselD (fun c1 => ?_) (fun c1 => ?_)
      · repeat (first | refine And.intro (by kernel_rfl) ?_ | refine And.intro (by decide) ?_)
        exact ⟨(), trivial, .id (congrArg boo (bad fun hb => absurd hb.1 (Int.not_le.2 c1)).symm) trivial⟩
      refine And.intro ⟨by decide, by decide⟩ ?_
      refine And.intro ⟨by decide, by decide⟩ ?_
      refine And.intro wu ?_
      repeat (first | refine And.intro (by kernel_rfl) ?_ | refine And.intro (by decide) ?_)
      refine bselD (fun c2 => ?_) (fun c2 => ?_)
      · repeat (first | refine And.intro (by kernel_rfl) ?_ | refine And.intro (by decide) ?_)
        exact ⟨(), trivial, .id (congrArg boo (bad fun hb => absurd (wp ▸ c2) (Int.not_le.2 hb.2)).symm) trivial⟩
      · repeat refine AJoin.plain ?_
        exact ⟨_, ⟨nxt ⟨Int.not_lt.1 c1, Int.not_le.1 (wp ▸ c2)⟩, by decide⟩, .id ⟨congrArg (int .i64) wi, trivial⟩ rfl trivial rfl⟩
  · obtain rfl : i = 6 := by omega
    repeat (first | refine And.intro (by kernel_rfl) ?_ | refine And.intro (by decide) ?_)
    exact ⟨(), trivial, .id (congrArg boo (vpB_iff.2 ⟨hv, ha⟩).symm) trivial⟩
structure PN where
  p : S6
  k : Nat
set_option maxHeartbeats 3200000 in
set_option maxRecDepth 10000 in
theorem mkPlace_fc (ts : List Int) (k : Nat) (s : S6) (hl : ts.length ≤ 400) (hv : ShV s) :
    ∃ x : PN, FC Try.prog 20 [.o (.c (.p 0 0 0)), s6S s] [diceB ts k, diceL ts] (s6S x.p) [diceB ts x.k, diceL ts] ∧ True := by
  have W : ∀ i, i < 6 → IntKind.i64.wrap (1 * 2 ^ min (IntKind.u64.wrap (s.get i)).toNat IntKind.i64.bits) = ((2 ^ wN s i : Nat) : Int) ∧ 0 ≤ IntKind.u64.wrap (s.get i) ∧ 1 ≤ 2 ^ wN s i ∧ 2 ^ wN s i ≤ 4096 := fun i hi => by
    obtain ⟨ge, gle⟩ := wN_is hv hi
    have := pow_small gle
    refine ⟨?_, ?_, this.1, this.2⟩
    · rw [ge]; exact (pow_i64 (wN s i) gle).1
    · rw [ge, wrapU64_in (by omega) (by omega)]; omega
  refine FC.rj mix Try.func20 ?_
  obtain ⟨a0, b0, c0, d0⟩ := W 0 (by omega)
  repeat (first | refine And.intro (by kernel_rfl) ?_ | refine And.intro (by decide) ?_)
  refine And.intro b0 ?_
  conv => whnf
  rw [show IntKind.i64.wrap (1 * 2 ^ min (IntKind.u64.wrap s.a).toNat IntKind.i64.bits) = ((2 ^ wN s 0 : Nat) : Int) from a0]
  refine FC.x (next_x ts k ((2 ^ wN s 0 : Nat) : Int) (by omega) hl) [0, 1] (fun x0 _ => ?_)
  obtain ⟨a1, b1, c1, d1⟩ := W 1 (by omega)
  repeat (first | refine And.intro (by kernel_rfl) ?_ | refine And.intro (by decide) ?_)
  refine And.intro b1 ?_
  conv => whnf
  rw [show IntKind.i64.wrap (1 * 2 ^ min (IntKind.u64.wrap s.b).toNat IntKind.i64.bits) = ((2 ^ wN s 1 : Nat) : Int) from a1]
  refine FC.x (next_x ts (k + 1) ((2 ^ wN s 1 : Nat) : Int) (by omega) hl) [0, 1] (fun x1 _ => ?_)
  obtain ⟨a2, b2, c2, d2⟩ := W 2 (by omega)
  repeat (first | refine And.intro (by kernel_rfl) ?_ | refine And.intro (by decide) ?_)
  refine And.intro b2 ?_
  conv => whnf
  rw [show IntKind.i64.wrap (1 * 2 ^ min (IntKind.u64.wrap s.c).toNat IntKind.i64.bits) = ((2 ^ wN s 2 : Nat) : Int) from a2]
  refine FC.x (next_x ts (k + 1 + 1) ((2 ^ wN s 2 : Nat) : Int) (by omega) hl) [0, 1] (fun x2 _ => ?_)
  obtain ⟨a3, b3, c3, d3⟩ := W 3 (by omega)
  repeat (first | refine And.intro (by kernel_rfl) ?_ | refine And.intro (by decide) ?_)
  refine And.intro b3 ?_
  conv => whnf
  rw [show IntKind.i64.wrap (1 * 2 ^ min (IntKind.u64.wrap s.d).toNat IntKind.i64.bits) = ((2 ^ wN s 3 : Nat) : Int) from a3]
  refine FC.x (next_x ts (k + 1 + 1 + 1) ((2 ^ wN s 3 : Nat) : Int) (by omega) hl) [0, 1] (fun x3 _ => ?_)
  obtain ⟨a4, b4, c4, d4⟩ := W 4 (by omega)
  repeat (first | refine And.intro (by kernel_rfl) ?_ | refine And.intro (by decide) ?_)
  refine And.intro b4 ?_
  conv => whnf
  rw [show IntKind.i64.wrap (1 * 2 ^ min (IntKind.u64.wrap s.e).toNat IntKind.i64.bits) = ((2 ^ wN s 4 : Nat) : Int) from a4]
  refine FC.x (next_x ts (k + 1 + 1 + 1 + 1) ((2 ^ wN s 4 : Nat) : Int) (by omega) hl) [0, 1] (fun x4 _ => ?_)
  obtain ⟨a5, b5, c5, d5⟩ := W 5 (by omega)
  repeat (first | refine And.intro (by kernel_rfl) ?_ | refine And.intro (by decide) ?_)
  refine And.intro b5 ?_
  conv => whnf
  rw [show IntKind.i64.wrap (1 * 2 ^ min (IntKind.u64.wrap s.f).toNat IntKind.i64.bits) = ((2 ^ wN s 5 : Nat) : Int) from a5]
  refine FC.x (next_x ts (k + 1 + 1 + 1 + 1 + 1) ((2 ^ wN s 5 : Nat) : Int) (by omega) hl) [0, 1] (fun x5 _ => ?_)
  repeat (first | refine And.intro (by kernel_rfl) ?_ | refine And.intro (by decide) ?_)
  exact ⟨⟨⟨x0, x1, x2, x3, x4, x5⟩, k + 1 + 1 + 1 + 1 + 1 + 1⟩, trivial, .id rfl ⟨.inl rfl, .inl rfl, trivial⟩⟩
end Go.Sx.T1
namespace Go.Sx.T1
open Go.Proofs
/-- a sighting -/
structure Sn where
  p : S6
  chip : Int
  time : Int
def snC (x : Sn) : List C := [.v (.int .i64 x.p.a), .v (.int .i64 x.p.b), .v (.int .i64 x.p.c), .v (.int .i64 x.p.d), .v (.int .i64 x.p.e), .v (.int .i64 x.p.f), .v (.int .i64 x.chip), .v (.int .i64 x.time)]
def snS (x : Sn) : SV := .o (.a (snC x))
/-- the part of a place that a kind compares -/
def whP (kind : Int) (p : S6) : S6 :=
  if kind = 1 then p else if kind = 2 then ⟨p.a, p.b, p.c, p.d, p.e, 0⟩ else if kind = 3 then ⟨p.a, p.b, p.c, p.d, 0, p.f⟩ else if kind = 4 then ⟨p.a, p.b, p.c, p.d, 0, 0⟩ else
  if kind = 5 then ⟨p.a, p.b, p.c, 0, 0, 0⟩ else if kind = 6 then ⟨p.a, p.b, 0, 0, 0, 0⟩ else zero6
def whB (kind : Int) : Bool := decide (1 ≤ kind) && decide (kind ≤ 6)
def whS (kind : Int) (p : S6) : SV := .t [.a (s6C (whP kind p)), .c (.v (.bool (whB kind)))]
set_option maxHeartbeats 3200000 in
set_option maxRecDepth 10000 in
theorem where_fc (kind : Int) (p : S6) : FC Try.prog 31 [int .i64 kind, s6S p] [] (whS kind p) [] := by
  refine FC.one (FC.r mix Try.func31 ?_)
  repeat (first | refine And.intro (by kernel_rfl) ?_ | refine And.intro (by decide) ?_)
  have fin : ∀ (q : S6) (b : Bool), whP kind p = q → whB kind = b → (SV.t [.a (s6C q), .c (.v (.bool b))]) = whS kind p := fun q b h1 h2 => by rw [whS, h1, h2]
  refine bselE (fun h => ?_) (fun h1 => ?_)
  · subst h
    repeat (first | refine And.intro (by kernel_rfl) ?_ | refine And.intro (by decide) ?_)
    exact ⟨(), trivial, .id (fin p true rfl rfl) trivial⟩
  refine bselE (fun h => ?_) (fun h2 => ?_)
  · subst h
    repeat (first | refine And.intro (by kernel_rfl) ?_ | refine And.intro (by decide) ?_)
    exact ⟨(), trivial, .id (fin ⟨p.a, p.b, p.c, p.d, p.e, 0⟩ true rfl rfl) trivial⟩
  refine bselE (fun h => ?_) (fun h3 => ?_)
  · subst h
    repeat (first | refine And.intro (by kernel_rfl) ?_ | refine And.intro (by decide) ?_)
    exact ⟨(), trivial, .id (fin ⟨p.a, p.b, p.c, p.d, 0, p.f⟩ true rfl rfl) trivial⟩
  refine bselE (fun h => ?_) (fun h4 => ?_)
  · subst h
    repeat (first | refine And.intro (by kernel_rfl) ?_ | refine And.intro (by decide) ?_)
    exact ⟨(), trivial, .id (fin ⟨p.a, p.b, p.c, p.d, 0, 0⟩ true rfl rfl) trivial⟩
  refine bselE (fun h => ?_) (fun h5 => ?_)
  · subst h
    repeat (first | refine And.intro (by kernel_rfl) ?_ | refine And.intro (by decide) ?_)
    exact ⟨(), trivial, .id (fin ⟨p.a, p.b, p.c, 0, 0, 0⟩ true rfl rfl) trivial⟩
  refine bselE (fun h => ?_) (fun h6 => ?_)
  · subst h
    repeat (first | refine And.intro (by kernel_rfl) ?_ | refine And.intro (by decide) ?_)
    exact ⟨(), trivial, .id (fin ⟨p.a, p.b, 0, 0, 0, 0⟩ true rfl rfl) trivial⟩
  · repeat (first | refine And.intro (by kernel_rfl) ?_ | refine And.intro (by decide) ?_)
    refine ⟨(), trivial, .id (fin zero6 false ?_ ?_) trivial⟩
    · simp [whP, h1, h2, h3, h4, h5, h6]
    · simp only [whB, Bool.and_eq_false_iff, decide_eq_false_iff_not]; omega
/-- the key of a sighting's part: 7 numbers -/
def keyL (kind : Int) (x : Sn) : List Int := [(whP kind x.p).a, (whP kind x.p).b, (whP kind x.p).c, (whP kind x.p).d, (whP kind x.p).e, (whP kind x.p).f, x.chip]
def keyC (l : List Int) : List C := [.v (.int .i64 (l.getD 0 0)), .v (.int .i64 (l.getD 1 0)), .v (.int .i64 (l.getD 2 0)), .v (.int .i64 (l.getD 3 0)), .v (.int .i64 (l.getD 4 0)), .v (.int .i64 (l.getD 5 0)), .v (.int .i64 (l.getD 6 0))]
set_option maxHeartbeats 3200000 in
set_option maxRecDepth 10000 in
theorem at_fc (kind : Int) (x : Sn) : FC Try.prog 32 [int .i64 kind, snS x] [] (.o (.a (keyC (keyL kind x)))) [] := by
  refine FC.one (FC.r mix Try.func32 ?_)
  repeat (first | refine And.intro (by kernel_rfl) ?_ | refine And.intro (by decide) ?_)
  refine FC.u (where_fc kind x.p) [] ?_
  repeat (first | refine And.intro (by kernel_rfl) ?_ | refine And.intro (by decide) ?_)
  exact ⟨(), trivial, .id rfl trivial⟩
/-- in the same part -/
def smB (kind : Int) (x y : Sn) : Bool := whB kind && decide (keyL kind x = keyL kind y)
theorem key_eq (k k' : Int) (x y : Sn) : decide (keyL k x = keyL k' y) = ((whP k x.p).a == (whP k' y.p).a && ((whP k x.p).b == (whP k' y.p).b && ((whP k x.p).c == (whP k' y.p).c && ((whP k x.p).d == (whP k' y.p).d && ((whP k x.p).e == (whP k' y.p).e && ((whP k x.p).f == (whP k' y.p).f && true))))) && (x.chip == y.chip && true)) := by
  rw [Bool.eq_iff_iff]
  simp [keyL, and_assoc]
set_option maxHeartbeats 3200000 in
set_option maxRecDepth 10000 in
theorem same_fc (kind : Int) (x y : Sn) : FC Try.prog 14 [int .i64 kind, snS x, snS y] [] (boo (smB kind x y)) [] := by
  refine FC.one (FC.r mix Try.func14 ?_)
  repeat (first | refine And.intro (by kernel_rfl) ?_ | refine And.intro (by decide) ?_)
  refine FC.u (where_fc kind x.p) [] ?_
  repeat (first | refine And.intro (by kernel_rfl) ?_ | refine And.intro (by decide) ?_)
  refine bsel_intro (fun h => ?_) (fun h => ?_)
  · refine FC.u (at_fc kind x) [] ?_
    refine FC.u (at_fc kind y) [] ?_
    repeat (first | refine And.intro (by kernel_rfl) ?_ | refine And.intro (by decide) ?_)
    refine ⟨(), trivial, .id (congrArg boo ?_) trivial⟩
    rw [smB, key_eq, h]
    rfl
  · repeat (first | refine And.intro (by kernel_rfl) ?_ | refine And.intro (by decide) ?_)
    exact ⟨(), trivial, .id (congrArg boo (by rw [smB, h]; rfl)) trivial⟩
end Go.Sx.T1
namespace Go.Sx.T1
open Go.Proofs
theorem kinds {k : Int} (h : whB k = true) : k = 1 ∨ k = 2 ∨ k = 3 ∨ k = 4 ∨ k = 5 ∨ k = 6 := by
  simp only [whB, Bool.and_eq_true, decide_eq_true_eq] at h
  omega
set_option maxHeartbeats 3200000 in
set_option maxRecDepth 10000 in
theorem part1_fc (p : S6) : FC Try.prog 42 [int .i64 1, s6S p] [] (s6S (whP 1 p)) [] := by
  refine FC.one (FC.r mix Try.func42 ?_)
  repeat (first | refine And.intro (by kernel_rfl) ?_ | refine And.intro (by decide) ?_)
  exact ⟨(), trivial, .id rfl trivial⟩
set_option maxHeartbeats 3200000 in
set_option maxRecDepth 10000 in
theorem part2_fc (p : S6) : FC Try.prog 42 [int .i64 2, s6S p] [] (s6S (whP 2 p)) [] := by
  refine FC.one (FC.r mix Try.func42 ?_)
  repeat (first | refine And.intro (by kernel_rfl) ?_ | refine And.intro (by decide) ?_)
  exact ⟨(), trivial, .id rfl trivial⟩
set_option maxHeartbeats 3200000 in
set_option maxRecDepth 10000 in
theorem part3_fc (p : S6) : FC Try.prog 42 [int .i64 3, s6S p] [] (s6S (whP 3 p)) [] := by
  refine FC.one (FC.r mix Try.func42 ?_)
  repeat (first | refine And.intro (by kernel_rfl) ?_ | refine And.intro (by decide) ?_)
  exact ⟨(), trivial, .id rfl trivial⟩
set_option maxHeartbeats 3200000 in
set_option maxRecDepth 10000 in
theorem part4_fc (p : S6) : FC Try.prog 42 [int .i64 4, s6S p] [] (s6S (whP 4 p)) [] := by
  refine FC.one (FC.r mix Try.func42 ?_)
  repeat (first | refine And.intro (by kernel_rfl) ?_ | refine And.intro (by decide) ?_)
  exact ⟨(), trivial, .id rfl trivial⟩
set_option maxHeartbeats 3200000 in
set_option maxRecDepth 10000 in
theorem part5_fc (p : S6) : FC Try.prog 42 [int .i64 5, s6S p] [] (s6S (whP 5 p)) [] := by
  refine FC.one (FC.r mix Try.func42 ?_)
  repeat (first | refine And.intro (by kernel_rfl) ?_ | refine And.intro (by decide) ?_)
  exact ⟨(), trivial, .id rfl trivial⟩
set_option maxHeartbeats 3200000 in
set_option maxRecDepth 10000 in
theorem part6_fc (p : S6) : FC Try.prog 42 [int .i64 6, s6S p] [] (s6S (whP 6 p)) [] := by
  refine FC.one (FC.r mix Try.func42 ?_)
  repeat (first | refine And.intro (by kernel_rfl) ?_ | refine And.intro (by decide) ?_)
  exact ⟨(), trivial, .id rfl trivial⟩
theorem part_fc (k : Int) (p : S6) (h : whB k = true) : FC Try.prog 42 [int .i64 k, s6S p] [] (s6S (whP k p)) [] := by
  rcases kinds h with rfl | rfl | rfl | rfl | rfl | rfl
  · exact part1_fc p
  · exact part2_fc p
  · exact part3_fc p
  · exact part4_fc p
  · exact part5_fc p
  · exact part6_fc p
set_option maxHeartbeats 3200000 in
set_option maxRecDepth 10000 in
theorem rsame_fc (kind : Int) (x y : Sn) : FC Try.prog 29 [int .i64 kind, snS x, snS y] [] (boo (smB kind x y)) [] := by
  refine FC.one (FC.r mix Try.func29 ?_)
  repeat (first | refine And.intro (by kernel_rfl) ?_ | refine And.intro (by decide) ?_)
  have no : whB kind = false → boo false = boo (smB kind x y) := fun h => congrArg boo (by rw [smB, h]; rfl)
  refine bselD (fun h1 => ?_) (fun h1 => ?_)
  rotate_left
  · repeat (first | refine And.intro (by kernel_rfl) ?_ | refine And.intro (by decide) ?_)
    exact ⟨(), trivial, .id (no (by simp only [whB, Bool.and_eq_false_iff, decide_eq_false_iff_not]; omega)) trivial⟩
  refine bselD (fun h2 => ?_) (fun h2 => ?_)
  rotate_left
  · repeat (first | refine And.intro (by kernel_rfl) ?_ | refine And.intro (by decide) ?_)
    exact ⟨(), trivial, .id (no (by simp only [whB, Bool.and_eq_false_iff, decide_eq_false_iff_not]; omega)) trivial⟩
  have hk : whB kind = true := by simp only [whB, Bool.and_eq_true, decide_eq_true_eq]; omega
  refine bselE (fun h3 => ?_) (fun h3 => ?_)
  rotate_left
  · repeat (first | refine And.intro (by kernel_rfl) ?_ | refine And.intro (by decide) ?_)
    refine ⟨(), trivial, .id (congrArg boo ?_) trivial⟩
    have : keyL kind x ≠ keyL kind y := fun h => h3 (by injection h; simp_all)
    simp [smB, this]
  refine FC.u (part_fc kind x.p hk) [] ?_
  refine FC.u (part_fc kind y.p hk) [] ?_
  repeat (first | refine And.intro (by kernel_rfl) ?_ | refine And.intro (by decide) ?_)
  refine ⟨(), trivial, .id (congrArg boo ?_) trivial⟩
  rw [smB, key_eq, hk, h3]
  simp
end Go.Sx.T1
namespace Go.Sx.T1
open Go.Proofs
set_option maxHeartbeats 3200000 in
set_option maxRecDepth 10000 in
theorem shape_fc (ts : List Int) (k : Nat) (hl : ts.length ≤ 400) : ∃ x : PN, FC Try.prog 12 [.o (.c (.p 0 0 0))] [diceB ts k, diceL ts] (s6S x.p) [diceB ts x.k, diceL ts] ∧ ShV x.p := by
  refine FC.r mix Try.func12 ?_
  have d0 := dv_bd ts k (n := 2) (by omega)
  refine FC.x (next_x ts k 2 (by omega) hl) [0, 1] (fun x0 e0 => ?_)
  have d1 := dv_bd ts (k + 1) (n := 2) (by omega)
  refine FC.x (next_x ts (k + 1) 2 (by omega) hl) [0, 1] (fun x1 e1 => ?_)
  have d2 := dv_bd ts (k + 1 + 1) (n := 2) (by omega)
  refine FC.x (next_x ts (k + 1 + 1) 2 (by omega) hl) [0, 1] (fun x2 e2 => ?_)
  have d3 := dv_bd ts (k + 1 + 1 + 1) (n := 2) (by omega)
  refine FC.x (next_x ts (k + 1 + 1 + 1) 2 (by omega) hl) [0, 1] (fun x3 e3 => ?_)
  repeat (first | refine And.intro (by kernel_rfl) ?_ | refine And.intro (by decide) ?_)
  have d4 := dv_bd ts (k + 1 + 1 + 1 + 1) (n := 3) (by omega)
  refine FC.x (next_x ts (k + 1 + 1 + 1 + 1) 3 (by omega) hl) [0, 1] (fun x4 e4 => ?_)
  repeat (first | refine And.intro (by kernel_rfl) ?_ | refine And.intro (by decide) ?_)
  rw [← e0] at d0
  rw [← e1] at d1
  rw [← e2] at d2
  rw [← e3] at d3
  rw [← e4] at d4
  have w3 : IntKind.i64.wrap (1 + IntKind.i64.wrap (x3.tdiv 2)) = 1 := by
    have : x3 = 0 ∨ x3 = 1 := by omega
    rcases this with rfl | rfl <;> rfl
  have w4 : IntKind.i64.wrap (1 + x4) = 1 + x4 := wrap64_in (by omega) (by omega)
  refine ⟨⟨⟨x0, x1, x2, 1, 1 + x4, 2⟩, k + 1 + 1 + 1 + 1 + 1⟩, ⟨fun j hj => ?_, ?_⟩, .id ?_ ⟨.inl rfl, .inl rfl, trivial⟩⟩
  · rcases below6 hj with rfl | rfl | rfl | rfl | rfl | rfl <;> simp only [S6.get] <;> omega
  · simp only [sumTo, S6.get]; omega
  · rw [w3, w4]; rfl
structure SnK where
  x : Sn
  k : Nat
set_option maxHeartbeats 3200000 in
set_option maxRecDepth 10000 in
theorem seen_fc (ts : List Int) (k : Nat) (s : S6) (x : Sn) (hl : ts.length ≤ 400) (hv : ShV s) : ∃ y : SnK, FC Try.prog 17 [.o (.c (.p 0 0 0)), s6S s, snS x] [diceB ts k, diceL ts] (snS y.x) [diceB ts y.k, diceL ts] ∧ True := by
  refine FC.r mix Try.func17 ?_
  refine FC.x (next_x ts k 64 (by omega) hl) [0, 1] (fun x0 _ => ?_)
  refine FC.x (next_x ts (k + 1) 64 (by omega) hl) [0, 1] (fun x1 _ => ?_)
  refine FC.x (next_x ts (k + 1 + 1) 64 (by omega) hl) [0, 1] (fun x2 _ => ?_)
  refine FC.x (next_x ts (k + 1 + 1 + 1) 64 (by omega) hl) [0, 1] (fun x3 _ => ?_)
  refine FC.x (next_x ts (k + 1 + 1 + 1 + 1) 64 (by omega) hl) [0, 1] (fun x4 _ => ?_)
  refine FC.x (next_x ts (k + 1 + 1 + 1 + 1 + 1) 64 (by omega) hl) [0, 1] (fun x5 _ => ?_)
  repeat (first | refine And.intro (by kernel_rfl) ?_ | refine And.intro (by decide) ?_)
  refine FC.u (roll_fc [x0, x1, x2, x3, x4, x5]) [5] ?_
  refine FC.x (mkPlace_fc [x0, x1, x2, x3, x4, x5] 0 s (Nat.le_of_ble_eq_true rfl) hv) [6, 5] (fun q _ => ?_)
  repeat (first | refine And.intro (by kernel_rfl) ?_ | refine And.intro (by decide) ?_)
  refine FC.x (next_x ts (k + 1 + 1 + 1 + 1 + 1 + 1) 6 (by omega) hl) [0, 1] (fun v _ => ?_)
  refine bselE (fun h => ?_) (fun h => ?_)
  · refine FC.x (next_x ts (k + 1 + 1 + 1 + 1 + 1 + 1 + 1) 100 (by omega) hl) [0, 1] (fun z _ => ?_)
    repeat (first | refine And.intro (by kernel_rfl) ?_ | refine And.intro (by decide) ?_)
    exact ⟨⟨⟨x.p, x.chip, z⟩, (k + 1 + 1 + 1 + 1 + 1 + 1 + 1 + 1)⟩, trivial, .id rfl ⟨.inl rfl, .inl rfl, trivial⟩⟩
  refine bselE (fun h => ?_) (fun h => ?_)
  · repeat (first | refine And.intro (by kernel_rfl) ?_ | refine And.intro (by decide) ?_)
    refine FC.x (next_x ts (k + 1 + 1 + 1 + 1 + 1 + 1 + 1) 100 (by omega) hl) [0, 1] (fun z _ => ?_)
    repeat (first | refine And.intro (by kernel_rfl) ?_ | refine And.intro (by decide) ?_)
    exact ⟨⟨⟨⟨x.p.a, x.p.b, x.p.c, x.p.d, x.p.e, q.p.f⟩, x.chip, z⟩, (k + 1 + 1 + 1 + 1 + 1 + 1 + 1 + 1)⟩, trivial, .id rfl ⟨.inl rfl, .inl rfl, trivial⟩⟩
  refine bselE (fun h => ?_) (fun h => ?_)
  · repeat (first | refine And.intro (by kernel_rfl) ?_ | refine And.intro (by decide) ?_)
    refine FC.x (next_x ts (k + 1 + 1 + 1 + 1 + 1 + 1 + 1) 100 (by omega) hl) [0, 1] (fun z _ => ?_)
    repeat (first | refine And.intro (by kernel_rfl) ?_ | refine And.intro (by decide) ?_)
    exact ⟨⟨⟨⟨x.p.a, x.p.b, x.p.c, x.p.d, q.p.e, x.p.f⟩, x.chip, z⟩, (k + 1 + 1 + 1 + 1 + 1 + 1 + 1 + 1)⟩, trivial, .id rfl ⟨.inl rfl, .inl rfl, trivial⟩⟩
  refine bselE (fun h => ?_) (fun h => ?_)
  · repeat (first | refine And.intro (by kernel_rfl) ?_ | refine And.intro (by decide) ?_)
    refine FC.x (next_x ts (k + 1 + 1 + 1 + 1 + 1 + 1 + 1) 100 (by omega) hl) [0, 1] (fun z _ => ?_)
    repeat (first | refine And.intro (by kernel_rfl) ?_ | refine And.intro (by decide) ?_)
    exact ⟨⟨⟨⟨x.p.a, x.p.b, q.p.c, q.p.d, q.p.e, q.p.f⟩, x.chip, z⟩, (k + 1 + 1 + 1 + 1 + 1 + 1 + 1 + 1)⟩, trivial, .id rfl ⟨.inl rfl, .inl rfl, trivial⟩⟩
  refine bselE (fun h => ?_) (fun h => ?_)
  · repeat (first | refine And.intro (by kernel_rfl) ?_ | refine And.intro (by decide) ?_)
    refine FC.x (next_x ts (k + 1 + 1 + 1 + 1 + 1 + 1 + 1) 100 (by omega) hl) [0, 1] (fun z _ => ?_)
    repeat (first | refine And.intro (by kernel_rfl) ?_ | refine And.intro (by decide) ?_)
    exact ⟨⟨⟨⟨x.p.a, x.p.b, x.p.c, q.p.d, q.p.e, q.p.f⟩, x.chip, z⟩, (k + 1 + 1 + 1 + 1 + 1 + 1 + 1 + 1)⟩, trivial, .id rfl ⟨.inl rfl, .inl rfl, trivial⟩⟩
  · refine FC.x (next_x ts (k + 1 + 1 + 1 + 1 + 1 + 1 + 1) 4 (by omega) hl) [0, 1] (fun y _ => ?_)
    refine FC.x (next_x ts (k + 1 + 1 + 1 + 1 + 1 + 1 + 1 + 1) 100 (by omega) hl) [0, 1] (fun z _ => ?_)
    repeat (first | refine And.intro (by kernel_rfl) ?_ | refine And.intro (by decide) ?_)
    exact ⟨⟨⟨q.p, y, z⟩, (k + 1 + 1 + 1 + 1 + 1 + 1 + 1 + 1 + 1)⟩, trivial, .id rfl ⟨.inl rfl, .inl rfl, trivial⟩⟩
end Go.Sx.T1
namespace Go.Sx.T1
open Go.Proofs
/-- some sightings, in a block -/
def sn0 : Sn := ⟨zero6, 0, 0⟩
def snK (xs : List Sn) : Bk := .rows 8 xs.length fun i => snC (xs.getD i sn0)
def snB (xs : List Sn) (wr : Bool) : Option Blk := some ⟨snK xs, wr⟩
theorem newSn (sz : Nat) (h : sz = 8) : Bk.fits (snK []) sz ∧ Bk.need (snK []) = 0 := ⟨.inr ⟨h, (by decide), fun _ h => absurd h (Nat.not_lt_zero _)⟩, rfl⟩
theorem sn_app {l : List Sn} {y : Sn} {f : Nat → List C} (h1 : ∀ i, i < l.length → f i = snC (l.getD (0 + i) sn0)) (h2 : f l.length = snC y) {w w' : Bool} (hw : w' = true → w = true) : leB (some ⟨.rows 8 (l.length + 1) f, w⟩) ⟨snK (l ++ [y]), w'⟩ := by
  refine leB.rows (by simp) (fun i hi => ?_) hw
  rw [List.length_append, List.length_singleton] at hi
  by_cases h : i < l.length
  · rw [h1 i h, Nat.zero_add]
    simp [List.getD, List.getElem?_append_left h]
  · obtain rfl : i = l.length := by omega
    rw [h2]
    simp [List.getD]
theorem sn_len (l : List Sn) (y : Sn) (n : Nat) : SV.o (.c (.s n 0 (l.length + 1) 8)) = SV.o (.c (.s n 0 (l ++ [y]).length 8)) := by rw [List.length_append]; rfl
structure SnsK where
  l : List Sn
  k : Nat
def seensM (ts : List Int) (y : SnsK) : Mem := [diceB ts y.k, diceL ts, snB y.l true]
structure SX where
  r : Nat
  l : List Sn
  k : Nat
set_option maxHeartbeats 3200000 in
set_option maxRecDepth 10000 in
theorem seens_fc (ts : List Int) (k : Nat) (s : S6) (most : Nat) (hl : ts.length ≤ 400) (hv : ShV s) (hm : most ≤ 14) : ∃ y : SnsK, FC Try.prog 11 [.o (.c (.p 0 0 0)), s6S s, int .i64 (most : Int)] [diceB ts k, diceL ts] (.o (.c (.s 2 0 y.l.length 8))) (seensM ts y) ∧ y.l.length ≤ most := by
  refine FC.rj mix Try.func11 ?_
  refine FC.x (next_x ts k 3 (by omega) hl) [0, 1] (fun c _ => ?_)
  repeat (first | refine And.intro (by kernel_rfl) ?_ | refine And.intro (by decide) ?_)
  refine FC.x (seen_fc ts (k + 1) s ⟨zero6, c, 0⟩ hl hv) [0, 1] (fun y0 _ => ?_)
  repeat (first | refine And.intro (by kernel_rfl) ?_ | refine And.intro (by decide) ?_)
  have w : IntKind.i64.wrap ((most : Int) + 1) = (most : Int) + 1 := wrap64_in (by omega) (by omega)
  conv => whnf
  rw [w]
  have dm := dv_bd ts y0.k (n := (most : Int) + 1) (by omega)
  refine FC.x (next_x ts y0.k ((most : Int) + 1) (by omega) hl) [0, 1] (fun d ed => ?_)
  rw [← ed] at dm
  clear ed
  obtain ⟨d, rfl⟩ : ∃ m : Nat, d = m := ⟨d.toNat, by omega⟩
  repeat (first | refine And.intro (by kernel_rfl) ?_ | refine And.intro (by decide) ?_)
  refine ALoop.goN (X := SX) (fun x => x.l.length + x.r ≤ most) (fun x => x.r) [0, 4, 8] [1, 2, 3] (fun x => [(7, .o (.c (.s 4 0 x.l.length 8))), (9, int .i64 (x.r : Int))]) (fun x => [(0, ⟨.box [.s 1 0 ts.length 1, .v (.int .i64 (min x.k ts.length : Nat))], true⟩), (4, ⟨snK x.l, true⟩)]) ⟨d, [], y0.k + 1⟩ 5
    (by show 0 + d ≤ most; omega) (isAt.go [(4, .new 8)] ⟨rfl, rfl, trivial⟩ ⟨.inl rfl, newSn 8 rfl, trivial⟩) ?_
  rintro ⟨r, l, k2⟩ hinv
  replace hinv : l.length + r ≤ most := hinv
  dsimp only [headF, headM]
  refine bselD (fun h => ?_) (fun h => ?_)
  · have wr : IntKind.i64.wrap ((r : Int) - 1) = ((r - 1 : Nat) : Int) := by rw [wrap64_in (by omega) (by omega)]; omega
    repeat refine AJoin.plain ?_
    refine bselD (fun h2 => ?_) (fun h2 => ?_)
    · have h2' : 0 < l.length := by have : (l.length : Int) > 0 := h2; omega
      have dl := dv_bd ts k2 (n := (l.length : Int)) (by omega)
      refine FC.x (next_x ts k2 (l.length : Int) (by omega) hl) [0, 1] (fun v ev => ?_)
      rw [← ev] at dl
      clear ev
      obtain ⟨v, rfl⟩ : ∃ m : Nat, v = m := ⟨v.toNat, by omega⟩
      refine And.intro ⟨by omega, by omega⟩ ?_
      refine And.intro (by show 0 + v < l.length; omega) ?_
      repeat (first | refine And.intro (by kernel_rfl) ?_ | refine And.intro (by decide) ?_)
      refine FC.x (seen_fc ts (k2 + 1) s (l.getD (0 + v) sn0) hl hv) [0, 1] (fun y _ => ?_)
      refine And.intro ⟨by show 0 + l.length ≤ l.length; omega, fun _ _ => rfl⟩ ?_
      refine And.intro ⟨Nat.le_of_ble_eq_true rfl, fun i hi => (by obtain rfl : i = 0 := Nat.lt_one_iff.1 hi; rfl)⟩ ?_
      refine And.intro (by show l.length + 1 ≤ 4294967296; omega) ?_
      repeat (first | refine And.intro (by kernel_rfl) ?_ | refine And.intro (by decide) ?_)
      exact ⟨⟨r - 1, l ++ [y.x], y.k⟩, ⟨by show (l ++ [y.x]).length + (r - 1) ≤ most; rw [List.length_append, List.length_singleton]; omega, by show r - 1 < r; omega⟩, isAt.go [(4, .to 7)] ⟨sn_len l y.x 7, congrArg (int .i64) wr, trivial⟩ ⟨.inl rfl, sn_app (fun i hi => if_pos hi) ((if_neg (Nat.lt_irrefl _)).trans (by rw [Nat.sub_self]; rfl)) id, trivial⟩⟩
    · refine FC.x (seen_fc ts k2 s y0.x hl hv) [0, 1] (fun y _ => ?_)
      refine And.intro ⟨by show 0 + l.length ≤ l.length; omega, fun _ _ => rfl⟩ ?_
      refine And.intro ⟨Nat.le_of_ble_eq_true rfl, fun i hi => (by obtain rfl : i = 0 := Nat.lt_one_iff.1 hi; rfl)⟩ ?_
      refine And.intro (by show l.length + 1 ≤ 4294967296; omega) ?_
      repeat (first | refine And.intro (by kernel_rfl) ?_ | refine And.intro (by decide) ?_)
      exact ⟨⟨r - 1, l ++ [y.x], y.k⟩, ⟨by show (l ++ [y.x]).length + (r - 1) ≤ most; rw [List.length_append, List.length_singleton]; omega, by show r - 1 < r; omega⟩, isAt.go [(4, .to 7)] ⟨sn_len l y.x 7, congrArg (int .i64) wr, trivial⟩ ⟨.inl rfl, sn_app (fun i hi => if_pos hi) ((if_neg (Nat.lt_irrefl _)).trans (by rw [Nat.sub_self]; rfl)) id, trivial⟩⟩
  · obtain rfl : r = 0 := by omega
    repeat (first | refine And.intro (by kernel_rfl) ?_ | refine And.intro (by decide) ?_)
    refine ⟨⟨l, k2⟩, by omega, isEnd.go [(2, .to 4)] rfl ⟨.inl rfl, .inl rfl, .inl rfl, trivial⟩⟩
end Go.Sx.T1
namespace Go.Sx.T1
/-! different keys, and the numbers of the places where each stands -/
abbrev Ky := List Int
def dk (ks : List Ky) : List Ky := ks.foldl (fun acc k => if k ∈ acc then acc else acc ++ [k]) []
theorem dk_nil : dk [] = [] := rfl
theorem dk_snoc (ks : List Ky) (k : Ky) : dk (ks ++ [k]) = if k ∈ dk ks then dk ks else dk ks ++ [k] := by
  unfold dk
  rw [List.foldl_append]
  rfl
/-- from the end -/
theorem snoc_ind {α : Type} {P : List α → Prop} (h0 : P []) (h1 : ∀ l x, P l → P (l ++ [x])) : ∀ l, P l := by
  have : ∀ n (l : List α), l.length = n → P l := by
    intro n
    induction n with
    | zero => intro l hl; rw [List.eq_nil_of_length_eq_zero hl]; exact h0
    | succ n ih =>
      intro l hl
      have hne : l ≠ [] := fun e => by rw [e] at hl; cases hl
      rw [← List.dropLast_concat_getLast hne]
      exact h1 _ _ (ih _ (by simp [hl]))
  exact fun l => this _ l rfl
theorem mem_dk : ∀ (ks : List Ky) (k : Ky), k ∈ dk ks ↔ k ∈ ks := by
  refine snoc_ind (by simp [dk_nil]) fun ks x ih k => ?_
  rw [dk_snoc]
  split
  · rename_i h
    rw [ih, List.mem_append, List.mem_singleton]
    exact ⟨.inl, fun h' => h'.elim id fun e => by rw [e]; exact (ih x).1 h⟩
  · rw [List.mem_append, List.mem_append, ih]
theorem dk_nodup : ∀ (ks : List Ky), (dk ks).Nodup := by
  refine snoc_ind (by simp [dk_nil]) fun ks x ih => ?_
  rw [dk_snoc]
  split
  · exact ih
  · rename_i h
    rw [List.nodup_append]
    exact ⟨ih, by simp, fun a ha b hb => by rw [List.mem_singleton] at hb; subst hb; exact fun e => h (e ▸ ha)⟩
theorem dk_len (ks : List Ky) : (dk ks).length ≤ ks.length := by
  revert ks
  refine snoc_ind (by simp [dk_nil]) fun ks x ih => ?_
  rw [dk_snoc]
  split <;> simp <;> omega
theorem nodup_inj {α : Type} {l : List α} (h : l.Nodup) {i j : Nat} (hi : i < l.length) (hj : j < l.length) (e : l[i] = l[j]) : i = j := by
  rw [List.nodup_iff_pairwise_ne, List.pairwise_iff_getElem] at h
  rcases Nat.lt_trichotomy i j with h1 | h1 | h1
  · exact absurd e (h i j hi hj h1)
  · exact h1
  · exact absurd e.symm (h j i hj hi h1)
/-- the places where a key stands -/
def ix (ks : List Ky) (k : Ky) : List Int := ((List.range ks.length).filter fun i => decide (ks.getD i [] = k)).map fun (i : Nat) => (i : Int)
theorem ix_snoc (ks : List Ky) (k' k : Ky) : ix (ks ++ [k']) k = ix ks k ++ (if k' = k then [(ks.length : Int)] else []) := by
  unfold ix
  rw [List.length_append, List.length_singleton, List.range_succ, List.filter_append, List.map_append]
  congr 1
  · congr 1
    refine List.filter_congr fun i hi => ?_
    rw [List.mem_range] at hi
    have : (ks ++ [k']).getD i [] = ks.getD i [] := by simp [List.getD, List.getElem?_append_left hi]
    exact decide_eq_decide.2 (by rw [this])
  · by_cases h : k' = k <;> simp [List.getD, h]
theorem ix_nil {ks : List Ky} {k : Ky} (h : k ∉ ks) : ix ks k = [] := by
  unfold ix
  rw [List.map_eq_nil_iff, List.filter_eq_nil_iff]
  intro i hi
  rw [List.mem_range] at hi
  simp only [decide_eq_true_eq]
  intro e
  refine h ?_
  rw [← e]
  simp [List.getD, hi]
def gr (ks : List Ky) : List (List Int) := (dk ks).map (ix ks)
theorem gr_len (ks : List Ky) : (gr ks).length = (dk ks).length := by simp [gr]
theorem gr_get (ks : List Ky) (j : Nat) (h : j < (dk ks).length) : (gr ks).getD j [] = ix ks ((dk ks)[j]) := by simp [gr, List.getD, h]
theorem gr_nil : gr [] = [] := rfl
theorem gr_old {ks : List Ky} {k : Ky} {j : Nat} (h : (dk ks)[j]? = some k) : gr (ks ++ [k]) = (gr ks).set j ((gr ks).getD j [] ++ [(ks.length : Int)]) := by
  obtain ⟨hj, hk⟩ := List.getElem?_eq_some_iff.1 h
  have hmem : k ∈ dk ks := by rw [← hk]; exact List.getElem_mem hj
  have hd : dk (ks ++ [k]) = dk ks := by rw [dk_snoc, if_pos hmem]
  refine List.ext_getElem (by simp [gr, hd]) fun q h1 h2 => ?_
  have hq : q < (dk ks).length := by rw [gr_len, hd] at h1; exact h1
  have e1 : (gr (ks ++ [k]))[q] = ix (ks ++ [k]) ((dk ks)[q]) := by simp only [gr, List.getElem_map, hd]
  rw [e1, ix_snoc, List.getElem_set]
  by_cases hqj : j = q
  · subst hqj
    rw [if_pos hk.symm, if_pos rfl, gr_get ks j hj]
  · rw [if_neg hqj]
    have : ¬ k = (dk ks)[q] := fun e => hqj (nodup_inj (dk_nodup ks) hj hq (hk.trans e))
    rw [if_neg this, List.append_nil]
    simp [gr]
theorem gr_new {ks : List Ky} {k : Ky} (h : k ∉ dk ks) : gr (ks ++ [k]) = gr ks ++ [[(ks.length : Int)]] := by
  have hk : k ∉ ks := fun e => h ((mem_dk ks k).2 e)
  unfold gr
  rw [dk_snoc, if_neg h, List.map_append]
  congr 1
  · refine List.map_congr_left fun q hq => ?_
    have : ¬ k = q := fun e => h (by rw [e]; exact hq)
    rw [ix_snoc, if_neg this, List.append_nil]
  · simp [ix_snoc, ix_nil hk]
theorem ix_len (ks : List Ky) (k : Ky) : (ix ks k).length ≤ ks.length := by
  unfold ix
  rw [List.length_map]
  exact Nat.le_trans (List.length_filter_le _ _) (by simp)
theorem gr_row (ks : List Ky) (j : Nat) : ((gr ks).getD j []).length ≤ ks.length := by
  by_cases h : j < (dk ks).length
  · rw [gr_get ks j h]; exact ix_len ks _
  · have : (gr ks)[j]? = none := List.getElem?_eq_none (by rw [gr_len]; omega)
    simp [List.getD, this]
theorem ix_mem {ks : List Ky} {k : Ky} {v : Int} (h : v ∈ ix ks k) : ∃ p : Nat, v = p ∧ p < ks.length ∧ ks.getD p [] = k := by
  unfold ix at h
  obtain ⟨p, hp, rfl⟩ := List.mem_map.1 h
  rw [List.mem_filter, List.mem_range, decide_eq_true_eq] at hp
  exact ⟨p, rfl, hp.1, hp.2⟩
theorem mem_ix {ks : List Ky} {k : Ky} {p : Nat} (hp : p < ks.length) (h : ks.getD p [] = k) : (p : Int) ∈ ix ks k :=
  List.mem_map.2 ⟨p, by rw [List.mem_filter, List.mem_range, decide_eq_true_eq]; exact ⟨hp, h⟩, rfl⟩
theorem gr_head {ks : List Ky} {j : Nat} (h : j < (dk ks).length) : ∃ (p : Nat) (r : List Int), (gr ks).getD j [] = (p : Int) :: r ∧ p < ks.length ∧ ks.getD p [] = (dk ks)[j] := by
  rw [gr_get ks j h]
  have hm : (dk ks)[j] ∈ ks := (mem_dk ks _).1 (List.getElem_mem h)
  obtain ⟨q, hq, e⟩ := List.mem_iff_getElem.1 hm
  have h1 := mem_ix (ks := ks) (k := (dk ks)[j]) hq (by simp [List.getD, hq, e])
  cases hc : ix ks (dk ks)[j] with
  | nil => rw [hc] at h1; cases h1
  | cons v r =>
    obtain ⟨p, e1, e2, e3⟩ := ix_mem (ks := ks) (k := (dk ks)[j]) (v := v) (by rw [hc]; exact List.mem_cons_self ..)
    exact ⟨p, r, by rw [e1], e2, e3⟩
/-! the maps -/
def ent : List Ky → Nat → List (List Int × Value)
  | [], _ => []
  | k :: r, a => (k, .int .i64 (a : Int)) :: ent r (a + 1)
theorem ent_len : ∀ (l : List Ky) (a : Nat), (ent l a).length = l.length
  | [], _ => rfl
  | _ :: r, a => congrArg (· + 1) (ent_len r (a + 1))
theorem ent_mem : ∀ {l : List Ky} {a : Nat} {p : List Int × Value}, p ∈ ent l a → p.1 ∈ l
  | k :: r, a, p, h => by
    rcases List.mem_cons.1 h with rfl | h
    · exact List.mem_cons_self ..
    · exact List.mem_cons_of_mem _ (ent_mem h)
  | [], _, _, h => by cases h
theorem ent_find : ∀ {l : List Ky} {a b j : Nat} {k : Ky} {v : Value}, mfind k (ent l a) b = some (j, v) → ∃ q, l[q]? = some k ∧ v = .int .i64 ((a + q : Nat) : Int)
  | [], _, _, _, _, _, h => by cases h
  | k' :: r, a, b, j, k, v, h => by
    unfold ent mfind at h
    split at h
    · rename_i e
      cases h
      exact ⟨0, by rw [← e]; rfl, rfl⟩
    · obtain ⟨q, h1, h2⟩ := ent_find h
      exact ⟨q + 1, h1, by rw [h2, show a + 1 + q = a + (q + 1) by omega]⟩
theorem ent_none : ∀ {l : List Ky} {a b : Nat} {k : Ky}, mfind k (ent l a) b = none → k ∉ l ∧ mput (ent l a) k (.int .i64 ((a + l.length : Nat) : Int)) = ent (l ++ [k]) a
  | [], a, b, k, _ => ⟨by simp, rfl⟩
  | k' :: r, a, b, k, h => by
    unfold ent mfind at h
    split at h
    · cases h
    · rename_i e
      obtain ⟨h1, h2⟩ := ent_none h
      refine ⟨fun hm => ?_, ?_⟩
      · rcases List.mem_cons.1 hm with rfl | hm
        · exact e rfl
        · exact h1 hm
      · rw [show a + (k' :: r).length = a + 1 + r.length by simp only [List.length_cons]; omega]
        show (if (k', Value.int .i64 (a : Int)).1 = k then _ else (k', Value.int .i64 (a : Int)) :: mput (ent r (a + 1)) k _) = (k', Value.int .i64 (a : Int)) :: ent (r ++ [k]) (a + 1)
        rw [if_neg e, h2]
def trs (l : List Ky) : List (List Int × Value) := l.map fun k => (k, .bool true)
theorem trs_len (l : List Ky) : (trs l).length = l.length := by simp [trs]
theorem trs_mem {l : List Ky} {p : List Int × Value} (h : p ∈ trs l) : p.1 ∈ l := by
  obtain ⟨k, hk, rfl⟩ := List.mem_map.1 h
  exact hk
theorem trs_put : ∀ (l : List Ky) (k : Ky), mput (trs l) k (.bool true) = trs (if k ∈ l then l else l ++ [k])
  | [], k => by simp [trs, mput]
  | k' :: r, k => by
    have ih := trs_put r k
    show mput ((k', Value.bool true) :: trs r) k (.bool true) = _
    unfold mput
    by_cases h : k' = k
    · subst h
      simp [trs]
    · have hk : ¬ k = k' := fun e => h e.symm
      rw [if_neg h, ih]
      by_cases hm : k ∈ r <;> simp [trs, hm, hk]
theorem trs_step (ks : List Ky) (k : Ky) : mput (trs (dk ks)) k (.bool true) = trs (dk (ks ++ [k])) := by rw [trs_put, dk_snoc]
/-! the keys of the first sightings -/
theorem take_key {α : Type} (κ : α → Ky) (xs : List α) (d : α) {i : Nat} (h : i < xs.length) : (xs.map κ).take (i + 1) = (xs.map κ).take i ++ [κ (xs.getD i d)] := by
  rw [List.take_succ_eq_append_getElem (by simpa using h)]
  simp [List.getD, h]
end Go.Sx.T1
namespace Go.Sx.T1
open Go.Proofs
def kys (kind : Int) (xs : List Sn) : List Ky := xs.map (keyL kind)
/-- the groups of a kind -/
def gk (kind : Int) (xs : List Sn) : List (List Int) := if whB kind = true then gr (kys kind xs) else []
def dpB (gs : List (List Int)) (wr : Bool) : Option Blk := some ⟨.deep 0 gs none, wr⟩
theorem newD (sz : Nat) : Bk.fits (.deep 0 [] none) sz ∧ Bk.need (.deep 0 [] none) = 0 := ⟨.inl rfl, rfl⟩
theorem take_all (kind : Int) (xs : List Sn) : (kys kind xs).take xs.length = kys kind xs := by
  rw [List.take_of_length_le]; simp [kys]
theorem key_len {kind : Int} {xs : List Sn} {i : Nat} {k : Ky} (h : k ∈ dk ((kys kind xs).take i)) : k.length = 7 := by
  have h1 := List.mem_of_mem_take ((mem_dk _ _).1 h)
  obtain ⟨x, _, rfl⟩ := List.mem_map.1 h1
  rfl
theorem leD {lo : Nat} {rs rs' : List (List Int)} {ov : Option (Nat × C)} {w : Bool} (h : rs = rs') : leB (some ⟨.deep lo rs ov, w⟩) ⟨.deep lo rs' ov, w⟩ := .inl (by rw [h])
theorem leMp {es es' : List (List Int × Value)} {w : Bool} (h : es = es') : leB (some ⟨.map .many es, w⟩) ⟨.map .many es', w⟩ := .inl (by rw [h])
theorem s_len {n a b : Nat} (h : a = b) : SV.o (.c (.s n 0 a 1)) = SV.o (.c (.s n 0 b 1)) := by rw [h]
theorem row_app (g : List Int) (i : Int) : (g.drop 0).take g.length ++ ([i].drop 0).take 1 = g ++ [i] := by simp
def grM (xs : List Sn) (g : List (List Int)) : Mem := [snB xs false, dpB g true]
set_option maxHeartbeats 3200000 in
set_option maxRecDepth 10000 in
theorem groups_fc (kind : Int) (xs : List Sn) (hl : xs.length ≤ 1000) : ∃ g : List (List Int), FC Try.prog 13 [int .i64 kind, .o (.c (.s 0 0 xs.length 8))] [snB xs false] (.o (.c (.s 1 0 g.length 1))) (grM xs g) ∧ g = gk kind xs := by
  refine FC.rj mix Try.func13 ?_
  refine FC.u (where_fc kind zero6) [] ?_
  repeat (first | refine And.intro (by kernel_rfl) ?_ | refine And.intro (by decide) ?_)
  refine bselNot (bsel_intro (fun hw => ?_) (fun hw => ?_))
  rotate_left
  · repeat (first | refine And.intro (by kernel_rfl) ?_ | refine And.intro (by decide) ?_)
    exact ⟨[], by rw [gk, hw]; rfl, isEnd.go [(1, .new 1)] rfl ⟨.inl rfl, newD 1, trivial⟩⟩
  have hg : gk kind xs = gr (kys kind xs) := by rw [gk, if_pos hw]
  repeat (first | refine And.intro (by kernel_rfl) ?_ | refine And.intro (by decide) ?_)
  refine ALoop.goN (X := Nat) (fun i => i ≤ xs.length) (fun i => xs.length - i) [0, 4, 8, 23, 24] [0] (fun i => [(7, .o (.c (.s 3 0 (gr ((kys kind xs).take i)).length 1))), (25, int .i64 (i : Int))])
    (fun i => [(2, ⟨.map .many (ent (dk ((kys kind xs).take i)) 0), true⟩), (3, ⟨.deep 0 (gr ((kys kind xs).take i)) none, true⟩)]) 0 4 (Nat.zero_le _) (isAt.go [(3, .new 1)] ⟨rfl, rfl, trivial⟩ ⟨.inl rfl, newD 1, trivial⟩) ?_
  rintro i hi
  dsimp only [headF, headM]
  refine bselD (fun h => ?_) (fun h => ?_)
  · have h' : i < xs.length := by omega
    have wi : IntKind.i64.wrap ((i : Int) + 1) = ((i + 1 : Nat) : Int) := wrap64_in (by omega) (by omega)
    have hKl : ((kys kind xs).take i).length = i := by simp [kys]; omega
    have hstep : (kys kind xs).take (i + 1) = (kys kind xs).take i ++ [keyL kind (xs.getD i sn0)] := take_key (keyL kind) xs sn0 h'
    generalize hK : (kys kind xs).take i = K at *
    have hdl := dk_len K
    have hgl := gr_len K
    refine And.intro ⟨by omega, h⟩ ?_
    refine And.intro (by show 0 + i < xs.length; omega) ?_
    repeat (first | refine And.intro (by kernel_rfl) ?_ | refine And.intro (by decide) ?_)
    refine FC.u (at_fc kind (xs.getD (0 + i) sn0)) [] ?_
    repeat (first | refine And.intro (by kernel_rfl) ?_ | refine And.intro (by decide) ?_)
    refine And.intro (fun p hp => ?_) ?_
    · rw [← hK] at hp
      exact key_len (ent_mem hp)
    refine lkSel_intro (fun j v hf => ?_) (fun hf => ?_)
    · replace hf : mfind (keyL kind (xs.getD (0 + i) sn0)) (ent (dk K) 0) 0 = some (j, v) := hf
      obtain ⟨q, hq, rfl⟩ : ∃ q : Nat, (dk K)[q]? = some (keyL kind (xs.getD (0 + i) sn0)) ∧ v = .int .i64 (q : Int) := by
        obtain ⟨q, h1, h2⟩ := ent_find hf
        exact ⟨q, h1, by rw [h2, Nat.zero_add]⟩
      rw [Nat.zero_add] at hq
      have hql : q < (gr K).length := by have := (List.getElem?_eq_some_iff.1 hq).1; omega
      have hrow := gr_row K q
      repeat refine AJoin.plain ?_
      refine And.intro ⟨by omega, by show (q : Int) < ((gr K).length : Int); omega⟩ ?_
      refine And.intro ⟨Nat.zero_le _, by show 0 + q < (gr K).length; omega⟩ ?_
      refine And.intro ⟨by show 0 + ((gr K).getD (0 + q) []).length ≤ ((gr K).getD (0 + q) []).length; omega, trivial⟩ ?_
      refine And.intro ⟨Nat.le_of_ble_eq_true rfl, trivial⟩ ?_
      refine And.intro (by show ((gr K).getD (0 + q) []).length + 1 ≤ 4294967296; rw [Nat.zero_add]; omega) ?_
      refine And.intro ⟨by omega, by show (q : Int) < ((gr K).length : Int); omega⟩ ?_
      refine And.intro ⟨by show 0 + q < (gr K).length; omega, rfl⟩ ?_
      repeat (first | refine And.intro (by kernel_rfl) ?_ | refine And.intro (by decide) ?_)
      have hgr := gr_old hq
      rw [← hstep, hKl] at hgr
      have hd : dk ((kys kind xs).take (i + 1)) = dk K := by rw [hstep, dk_snoc, if_pos (List.mem_of_getElem? hq)]
      refine ⟨i + 1, ⟨h', by show xs.length - (i + 1) < xs.length - i; omega⟩, isAt.giv _ (MLe.give 3 8 rfl rfl (by simp)) (.id ⟨s_len (by rw [hgr, List.length_set]), congrArg (int .i64) wi, trivial⟩ rfl ⟨leMp (by rw [hd]), leD ?_, trivial⟩ rfl)⟩
      rw [hgr, ← row_app, Nat.zero_add]
      rfl
    · replace hf : mfind (keyL kind (xs.getD (0 + i) sn0)) (ent (dk K) 0) 0 = none := hf
      obtain ⟨hn, hput⟩ := ent_none hf
      repeat refine AJoin.plain ?_
      repeat (first | refine And.intro (by kernel_rfl) ?_ | refine And.intro (by decide) ?_)
      refine And.intro (fun p hp => ?_) ?_
      · rw [← hK] at hp
        exact key_len (ent_mem hp)
      repeat (first | refine And.intro (by kernel_rfl) ?_ | refine And.intro (by decide) ?_)
      conv => whnf
      refine And.intro ⟨rfl, Nat.zero_le _, by show (gr K).length + 1 ≤ 4294967296; omega⟩ ?_
      refine And.intro ⟨by omega, by show ((gr K).length : Int) < (((gr K).length + 1 : Nat) : Int); omega⟩ ?_
      refine And.intro ⟨Nat.zero_le _, by show 0 + (gr K).length < (gr K ++ [[]]).length; simp⟩ ?_
      have e0 : (gr K ++ [([] : List Int)]).getD (0 + (gr K).length) [] = [] := by simp [List.getD]
      refine And.intro ⟨by show 0 + ((gr K ++ [([] : List Int)]).getD (0 + (gr K).length) []).length ≤ ((gr K ++ [([] : List Int)]).getD (0 + (gr K).length) []).length; omega, trivial⟩ ?_
      refine And.intro ⟨Nat.le_of_ble_eq_true rfl, trivial⟩ ?_
      refine And.intro (by show ((gr K ++ [([] : List Int)]).getD (0 + (gr K).length) []).length + 1 ≤ 4294967296; rw [e0]; decide) ?_
      refine And.intro ⟨by omega, by show ((gr K).length : Int) < (((gr K).length + 1 : Nat) : Int); omega⟩ ?_
      refine And.intro ⟨by show 0 + (gr K).length < (gr K ++ [[]]).length; simp, rfl⟩ ?_
      repeat (first | refine And.intro (by kernel_rfl) ?_ | refine And.intro (by decide) ?_)
      rw [Nat.zero_add] at hn hput
      have hgr := gr_new hn
      rw [← hstep, hKl] at hgr
      have hd : dk ((kys kind xs).take (i + 1)) = dk K ++ [keyL kind (xs.getD i sn0)] := by rw [hstep, dk_snoc, if_neg hn]
      refine ⟨i + 1, ⟨h', by show xs.length - (i + 1) < xs.length - i; omega⟩, isAt.giv _ (MLe.give 7 10 rfl rfl (by simp)) (isAt.go [(3, .to 7)] ⟨s_len (by rw [hgr, List.length_append]; rfl), congrArg (int .i64) wi, trivial⟩ ⟨leMp ?_, leD ?_, trivial⟩)⟩
      · rw [hd, ← hput, Nat.zero_add, Nat.zero_add, ← hgl]; rfl
      · show (gr K ++ [[]]).set (0 + (gr K).length) (((gr K ++ [([] : List Int)]).getD (0 + (gr K).length) []).drop 0 |>.take ((gr K ++ [([] : List Int)]).getD (0 + (gr K).length) []).length |>.append (([(i : Int)].drop 0).take 1)) = _
        rw [hgr, e0, Nat.zero_add]
        simp
  · obtain rfl : i = xs.length := by omega
    repeat (first | refine And.intro (by kernel_rfl) ?_ | refine And.intro (by decide) ?_)
    refine ⟨gk kind xs, rfl, isEnd.go [(1, .to 3)] (by rw [take_all, hg]; rfl) (by rw [take_all, hg]; exact ⟨.inl rfl, .inl rfl, trivial⟩)⟩
end Go.Sx.T1
namespace Go.Sx.T1
open Go.Proofs
theorem set_self (rs : List (List Int)) (j q : Nat) (h : q = j := by rfl) : rs.set q (rs.getD j []) = rs := by
  subst h
  refine List.ext_getElem (by simp) fun i h1 h2 => ?_
  rw [List.getElem_set]
  split
  · rename_i e; subst e; simp [List.getD, h2]
  · rfl
structure RG where
  j : Nat
  f : Bool
  rs : List (List Int)
def rgOk (K : List Ky) (k : Ky) (x : RG) : Prop := x.j ≤ (gr K).length ∧ x.rs.length = (gr K).length ∧ ((x.f = false ∧ x.rs = gr K ∧ ∀ q, q < x.j → (dk K)[q]? ≠ some k) ∨ (x.f = true ∧ x.rs = gr (K ++ [k]) ∧ k ∈ dk K))
set_option maxHeartbeats 3200000 in
set_option maxRecDepth 10000 in
theorem rgroups_fc (kind : Int) (xs : List Sn) (hl : xs.length ≤ 1000) : ∃ g : List (List Int), FC Try.prog 26 [int .i64 kind, .o (.c (.s 0 0 xs.length 8))] [snB xs false] (.o (.c (.s 1 0 g.length 1))) (grM xs g) ∧ g = gk kind xs := by
  refine FC.rj mix Try.func26 ?_
  repeat (first | refine And.intro (by kernel_rfl) ?_ | refine And.intro (by decide) ?_)
  have nil : whB kind = false → ([] : List (List Int)) = gk kind xs := fun h => by rw [gk, h]; rfl
  refine bselD (fun h1 => ?_) (fun h1 => ?_)
  · repeat (first | refine And.intro (by kernel_rfl) ?_ | refine And.intro (by decide) ?_)
    exact ⟨[], nil (by simp only [whB, Bool.and_eq_false_iff, decide_eq_false_iff_not]; omega), isEnd.go [(1, .new 1)] rfl ⟨.inl rfl, newD 1, trivial⟩⟩
  refine bselD (fun h2 => ?_) (fun h2 => ?_)
  · repeat (first | refine And.intro (by kernel_rfl) ?_ | refine And.intro (by decide) ?_)
    exact ⟨[], nil (by simp only [whB, Bool.and_eq_false_iff, decide_eq_false_iff_not]; omega), isEnd.go [(1, .new 1)] rfl ⟨.inl rfl, newD 1, trivial⟩⟩
  have hw : whB kind = true := by simp only [whB, Bool.and_eq_true, decide_eq_true_eq]; omega
  have hg : gk kind xs = gr (kys kind xs) := by rw [gk, if_pos hw]
  repeat (first | refine And.intro (by kernel_rfl) ?_ | refine And.intro (by decide) ?_)
  refine ALoop.goN (X := Nat) (fun i => i ≤ xs.length) (fun i => xs.length - i) [0, 1, 4, 17, 18] [0] (fun i => [(5, .o (.c (.s 1 0 (gr ((kys kind xs).take i)).length 1))), (19, int .i64 (i : Int))])
    (fun i => [(1, ⟨.deep 0 (gr ((kys kind xs).take i)) none, true⟩)]) 0 2 (Nat.zero_le _) (isAt.go [(1, .new 1)] ⟨rfl, rfl, trivial⟩ ⟨newD 1, trivial⟩) ?_
  rintro i hi
  dsimp only [headF, headM]
  refine bselD (fun h => ?_) (fun h => ?_)
  · have h' : i < xs.length := by omega
    have wi : IntKind.i64.wrap ((i : Int) + 1) = ((i + 1 : Nat) : Int) := wrap64_in (by omega) (by omega)
    have hKl : ((kys kind xs).take i).length = i := by simp [kys]; omega
    have hstep : (kys kind xs).take (i + 1) = (kys kind xs).take i ++ [keyL kind (xs.getD i sn0)] := take_key (keyL kind) xs sn0 h'
    have hKp : ∀ p, p < i → ((kys kind xs).take i).getD p [] = keyL kind (xs.getD p sn0) := fun p hp => by
      simp [List.getD, kys, List.getElem?_take_of_lt hp, show p < xs.length by omega]
    generalize hK : (kys kind xs).take i = K at *
    have hdl := dk_len K
    have hgl := gr_len K
    generalize hk : keyL kind (xs.getD i sn0) = k at *
    repeat refine AJoin.plain ?_
    refine And.intro ⟨by omega, h⟩ ?_
    refine And.intro (by show 0 + i < xs.length; omega) ?_
    repeat (first | refine And.intro (by kernel_rfl) ?_ | refine And.intro (by decide) ?_)
    refine ALoop.goN (X := RG) (rgOk K k) (fun x => (gr K).length - x.j) [0, 1, 4, 5, 6, 7, 17, 18, 19, 24, 25] [0, 2] (fun x => [(8, boo x.f), (26, int .i64 (x.j : Int))])
      (fun x => [(1, ⟨.deep 0 x.rs none, true⟩)]) ⟨0, false, gr K⟩ 3 ⟨Nat.zero_le _, rfl, .inl ⟨rfl, rfl, fun q hq => absurd hq (Nat.not_lt_zero _)⟩⟩ (.id ⟨rfl, rfl, trivial⟩ rfl ⟨.inl rfl, trivial⟩ rfl) ?_
    rintro ⟨j, f, rs⟩ ⟨hj, hrl, hx⟩
    dsimp only [headF, headM]
    refine bselD (fun hjl => ?_) (fun hjl => ?_)
    · have hjl' : j < (gr K).length := by omega
      have wj : IntKind.i64.wrap ((j : Int) + 1) = ((j + 1 : Nat) : Int) := wrap64_in (by omega) (by omega)
      replace hrl : rs.length = (gr K).length := hrl
      repeat refine AJoin.plain ?_
      refine And.intro ⟨by omega, hjl⟩ ?_
      refine And.intro ⟨Nat.zero_le _, by show 0 + j < rs.length; omega⟩ ?_
      rcases hx with ⟨hf, hrs, hno⟩ | ⟨hf, hrs, hin⟩
      · replace hf : f = false := hf
        replace hrs : rs = gr K := hrs
        subst hf
        subst hrs
        obtain ⟨p, r, e1, e2, e3⟩ := gr_head (ks := K) (j := j) (by omega)
        have e1' : (gr K).getD (0 + j) [] = (p : Int) :: r := by rw [Nat.zero_add]; exact e1
        have hrow := gr_row K j
        have ev : ((gr K).getD (0 + j) []).getD (0 + 0) 0 = (p : Int) := by rw [e1']; rfl
        have hxp : 0 + (((gr K).getD (0 + j) []).getD (0 + 0) 0).toNat = p := by rw [ev]; omega
        repeat (first | refine And.intro (by kernel_rfl) ?_ | refine And.intro (by decide) ?_)
        refine And.intro ⟨by omega, by show (0 : Int) < (((gr K).getD (0 + j) []).length : Int); rw [e1', List.length_cons]; omega⟩ ?_
        refine And.intro (by show 0 + 0 < ((gr K).getD (0 + j) []).length; rw [e1', List.length_cons]; omega) ?_
        refine And.intro ⟨by show 0 ≤ ((gr K).getD (0 + j) []).getD (0 + 0) 0; omega, by show ((gr K).getD (0 + j) []).getD (0 + 0) 0 < (xs.length : Int); omega⟩ ?_
        refine And.intro (by show 0 + (((gr K).getD (0 + j) []).getD (0 + 0) 0).toNat < xs.length; omega) ?_
        repeat (first | refine And.intro (by kernel_rfl) ?_ | refine And.intro (by decide) ?_)
        refine FC.u (rsame_fc kind (xs.getD (0 + (((gr K).getD (0 + j) []).getD (0 + 0) 0).toNat) sn0) (xs.getD (0 + i) sn0)) [] ?_
        have esm : smB kind (xs.getD (0 + (((gr K).getD (0 + j) []).getD (0 + 0) 0).toNat) sn0) (xs.getD (0 + i) sn0) = decide ((dk K)[j]? = some k) := by
          rw [hxp, Nat.zero_add, smB, hw, ← hKp p (by omega), e3, hk, List.getElem?_eq_getElem (by omega)]
          simp
        repeat (first | refine And.intro (by kernel_rfl) ?_ | refine And.intro (by decide) ?_)
        refine bsel_intro (fun hs => ?_) (fun hs => ?_)
        · rw [esm, decide_eq_true_eq] at hs
          have hgr := gr_old hs
          rw [hKl] at hgr
          refine And.intro ⟨by show 0 + ((gr K).getD (0 + j) []).length ≤ ((gr K).getD (0 + j) []).length; omega, trivial⟩ ?_
          refine And.intro ⟨Nat.le_of_ble_eq_true rfl, trivial⟩ ?_
          refine And.intro (by show ((gr K).getD (0 + j) []).length + 1 ≤ 4294967296; rw [Nat.zero_add]; omega) ?_
          refine And.intro ⟨by omega, hjl⟩ ?_
          refine And.intro ⟨by show 0 + j < (gr K).length; omega, rfl⟩ ?_
          repeat (first | refine And.intro (by kernel_rfl) ?_ | refine And.intro (by decide) ?_)
          refine ⟨⟨j + 1, true, gr (K ++ [k])⟩, ⟨⟨hjl', by show (gr (K ++ [k])).length = _; rw [hgr, List.length_set], .inr ⟨rfl, rfl, List.mem_of_getElem? hs⟩⟩, by show (gr K).length - (j + 1) < (gr K).length - j; omega⟩, isAt.giv _ (MLe.give 1 5 rfl rfl (by simp)) (.id ⟨rfl, congrArg (int .i64) wj, trivial⟩ rfl ⟨leD ?_, trivial⟩ rfl)⟩
          rw [hgr, ← row_app, Nat.zero_add]
          rfl
        · rw [esm, decide_eq_false_iff_not] at hs
          repeat (first | refine And.intro (by kernel_rfl) ?_ | refine And.intro (by decide) ?_)
          refine ⟨⟨j + 1, false, gr K⟩, ⟨⟨hjl', rfl, .inl ⟨rfl, rfl, fun q hq => ?_⟩⟩, by show (gr K).length - (j + 1) < (gr K).length - j; omega⟩, isAt.giv _ (MLe.give 1 3 rfl rfl rfl) (.id ⟨rfl, congrArg (int .i64) wj, trivial⟩ rfl ⟨leD (set_self _ _ _), trivial⟩ rfl)⟩
          rcases Nat.lt_or_ge q j with h1 | h1
          · exact hno q h1
          · obtain rfl : q = j := by have : q < j + 1 := hq; omega
            exact hs
      · replace hf : f = true := hf
        replace hrs : rs = gr (K ++ [k]) := hrs
        subst hf
        repeat (first | refine And.intro (by kernel_rfl) ?_ | refine And.intro (by decide) ?_)
        exact ⟨⟨j + 1, true, rs⟩, ⟨⟨hjl', hrl, .inr ⟨rfl, hrs, hin⟩⟩, by show (gr K).length - (j + 1) < (gr K).length - j; omega⟩, isAt.giv _ (MLe.give 1 3 rfl rfl rfl) (.id ⟨rfl, congrArg (int .i64) wj, trivial⟩ rfl ⟨leD (set_self _ _ _), trivial⟩ rfl)⟩
    · have hjl' : j = (gr K).length := by have : j ≤ (gr K).length := hj; omega
      rcases hx with ⟨hf, hrs, hno⟩ | ⟨hf, hrs, hin⟩
      · replace hf : f = false := hf
        replace hrs : rs = gr K := hrs
        subst hf
        subst hrs
        have hn : k ∉ dk K := fun hm => by
          obtain ⟨q, hq, e⟩ := List.mem_iff_getElem.1 hm
          exact hno q (by show q < j; omega) (by rw [List.getElem?_eq_getElem hq, e])
        have hgr := gr_new hn
        rw [hKl] at hgr
        repeat (first | refine And.intro (by kernel_rfl) ?_ | refine And.intro (by decide) ?_)
        conv => whnf
        refine And.intro ⟨rfl, Nat.zero_le _, by show (gr K).length + 1 ≤ 4294967296; omega⟩ ?_
        repeat (first | refine And.intro (by kernel_rfl) ?_ | refine And.intro (by decide) ?_)
        refine ⟨i + 1, ⟨h', by show xs.length - (i + 1) < xs.length - i; omega⟩, isAt.giv _ (MLe.give 5 3 rfl rfl rfl) (isAt.go [(1, .to 5)] ⟨s_len (by rw [hstep, hgr, List.length_append]; rfl), congrArg (int .i64) wi, trivial⟩ ⟨leD ?_, trivial⟩)⟩
        rw [hstep, hgr]
        simp
      · replace hf : f = true := hf
        replace hrs : rs = gr (K ++ [k]) := hrs
        subst hf
        repeat (first | refine And.intro (by kernel_rfl) ?_ | refine And.intro (by decide) ?_)
        refine ⟨i + 1, ⟨h', by show xs.length - (i + 1) < xs.length - i; omega⟩, .id ⟨s_len (by rw [hstep, ← hrs]; exact hrl.symm), congrArg (int .i64) wi, trivial⟩ rfl ⟨leD (by rw [hstep, hrs]), trivial⟩ rfl⟩
  · obtain rfl : i = xs.length := by omega
    repeat (first | refine And.intro (by kernel_rfl) ?_ | refine And.intro (by decide) ?_)
    refine ⟨gk kind xs, rfl, .id (by rw [take_all, hg]; rfl) (by rw [take_all, hg]; exact ⟨.inl rfl, .inl rfl, trivial⟩)⟩
end Go.Sx.T1
namespace Go.Sx.T1
open Go.Proofs
/-- the first greatest list -/
def lgF (gs : List (List Int)) : List Int := gs.foldl (fun out g => if out.length < g.length then g else out) []
theorem lgF_snoc (gs : List (List Int)) (g : List Int) : lgF (gs ++ [g]) = if (lgF gs).length < g.length then g else lgF gs := by
  unfold lgF
  rw [List.foldl_append]
  rfl
theorem take_row {gs : List (List Int)} {i : Nat} (h : i < gs.length) : gs.take (i + 1) = gs.take i ++ [gs.getD i []] := by
  rw [List.take_succ_eq_append_getElem h]
  simp [List.getD, h]
theorem gk_len (kind : Int) (xs : List Sn) : (gk kind xs).length ≤ xs.length := by
  unfold gk
  split
  · rw [gr_len]
    have := dk_len (kys kind xs)
    simpa [kys] using this
  · exact Nat.zero_le _
def lgM (xs : List Sn) (g : List Int) : Mem := [snB xs false, i64s g true]
set_option maxHeartbeats 3200000 in
set_option maxRecDepth 10000 in
theorem largest_fc (kind : Int) (xs : List Sn) (hl : xs.length ≤ 1000) : ∃ g : List Int, FC Try.prog 19 [int .i64 kind, .o (.c (.s 0 0 xs.length 8))] [snB xs false] (.o (.c (.s 1 0 g.length 1))) (lgM xs g) ∧ g = lgF (gk kind xs) := by
  refine FC.rj mix Try.func19 ?_
  refine FC.x (groups_fc kind xs hl) [0] (fun gs hgs => ?_)
  have hgl := gk_len kind xs
  rw [← hgs] at hgl ⊢
  repeat (first | refine And.intro (by kernel_rfl) ?_ | refine And.intro (by decide) ?_)
  refine ALoop.goN (X := Nat) (fun i => i ≤ gs.length) (fun i => gs.length - i) [4, 10, 11] [0] (fun i => [(5, .o (.c (.s 2 0 (lgF (gs.take i)).length 1))), (12, int .i64 (i : Int))])
    (fun i => [(1, ⟨.deep i gs none, true⟩), (2, ⟨.ints .i64 (lgF (gs.take i)), true⟩)]) 0 3 (Nat.zero_le _) (isAt.go [(2, .new 1)] ⟨rfl, rfl, trivial⟩ ⟨.inl rfl, newI 1 rfl, trivial⟩) ?_
  rintro i hi
  dsimp only [headF, headM]
  refine bselD (fun h => ?_) (fun h => ?_)
  · have h' : i < gs.length := by omega
    have wi : IntKind.i64.wrap ((i : Int) + 1) = ((i + 1 : Nat) : Int) := wrap64_in (by omega) (by omega)
    have hs := take_row h'
    have hlg := lgF_snoc (gs.take i) (gs.getD i [])
    rw [← hs] at hlg
    generalize hB : lgF (gs.take i) = B at *
    repeat refine AJoin.plain ?_
    refine And.intro ⟨by omega, h⟩ ?_
    refine And.intro ⟨by show i ≤ 0 + i; omega, by show 0 + i < gs.length; omega⟩ ?_
    repeat (first | refine And.intro (by kernel_rfl) ?_ | refine And.intro (by decide) ?_)
    refine bselD (fun hc => ?_) (fun hc => ?_)
    · replace hc : ((gs.getD (0 + i) []).length : Int) > (B.length : Int) := hc
      rw [Nat.zero_add] at hc
      rw [if_pos (by omega)] at hlg
      repeat (first | refine And.intro (by kernel_rfl) ?_ | refine And.intro (by decide) ?_)
      exact ⟨i + 1, ⟨h', by show gs.length - (i + 1) < gs.length - i; omega⟩, isAt.giv _ (MLe.fgt 1 (i + 1) rfl (by omega) (fun j c e => by cases e; show 0 + i < i + 1; omega)) (isAt.go [(2, .to 3)] ⟨s_len (by rw [hlg]; show (gs.getD (0 + i) []).length = _; rw [Nat.zero_add]), congrArg (int .i64) wi, trivial⟩ ⟨.inl rfl, leB.ints_eq (by rw [hlg]; show gs.getD (0 + i) [] = _; rw [Nat.zero_add]) id, trivial⟩)⟩
    · replace hc : ¬ ((gs.getD (0 + i) []).length : Int) > (B.length : Int) := hc
      rw [Nat.zero_add] at hc
      rw [if_neg (by omega)] at hlg
      repeat (first | refine And.intro (by kernel_rfl) ?_ | refine And.intro (by decide) ?_)
      exact ⟨i + 1, ⟨h', by show gs.length - (i + 1) < gs.length - i; omega⟩, isAt.giv _ (MLe.fgt 1 (i + 1) rfl (by omega) (fun j c e => by cases e; show 0 + i < i + 1; omega)) (.id ⟨s_len (by rw [hlg]), congrArg (int .i64) wi, trivial⟩ rfl ⟨.inl rfl, leB.ints_eq hlg.symm id, trivial⟩ rfl)⟩
  · obtain rfl : i = gs.length := by omega
    repeat (first | refine And.intro (by kernel_rfl) ?_ | refine And.intro (by decide) ?_)
    exact ⟨lgF gs, rfl, isEnd.go [(1, .to 2)] (by rw [List.take_length]; rfl) (by rw [List.take_length]; exact ⟨.inl rfl, .inl rfl, trivial⟩)⟩
set_option maxHeartbeats 3200000 in
set_option maxRecDepth 10000 in
theorem rlargest_fc (kind : Int) (xs : List Sn) (hl : xs.length ≤ 1000) : ∃ g : List Int, FC Try.prog 28 [int .i64 kind, .o (.c (.s 0 0 xs.length 8))] [snB xs false] (.o (.c (.s 1 0 g.length 1))) (lgM xs g) ∧ g = lgF (gk kind xs) := by
  refine FC.rj mix Try.func28 ?_
  refine FC.x (rgroups_fc kind xs hl) [0] (fun gs hgs => ?_)
  have hgl := gk_len kind xs
  rw [← hgs] at hgl ⊢
  repeat (first | refine And.intro (by kernel_rfl) ?_ | refine And.intro (by decide) ?_)
  refine ALoop.goN (X := Nat) (fun i => i ≤ gs.length) (fun i => gs.length - i) [4, 10, 11] [0] (fun i => [(5, .o (.c (.s 2 0 (lgF (gs.take i)).length 1))), (12, int .i64 (i : Int))])
    (fun i => [(1, ⟨.deep i gs none, true⟩), (2, ⟨.ints .i64 (lgF (gs.take i)), true⟩)]) 0 3 (Nat.zero_le _) (isAt.go [(2, .new 1)] ⟨rfl, rfl, trivial⟩ ⟨.inl rfl, newI 1 rfl, trivial⟩) ?_
  rintro i hi
  dsimp only [headF, headM]
  refine bselD (fun h => ?_) (fun h => ?_)
  · have h' : i < gs.length := by omega
    have wi : IntKind.i64.wrap ((i : Int) + 1) = ((i + 1 : Nat) : Int) := wrap64_in (by omega) (by omega)
    have hs := take_row h'
    have hlg := lgF_snoc (gs.take i) (gs.getD i [])
    rw [← hs] at hlg
    generalize hB : lgF (gs.take i) = B at *
    repeat refine AJoin.plain ?_
    refine And.intro ⟨by omega, h⟩ ?_
    refine And.intro ⟨by show i ≤ 0 + i; omega, by show 0 + i < gs.length; omega⟩ ?_
    repeat (first | refine And.intro (by kernel_rfl) ?_ | refine And.intro (by decide) ?_)
    refine bselD (fun hc => ?_) (fun hc => ?_)
    · replace hc : ((gs.getD (0 + i) []).length : Int) > (B.length : Int) := hc
      rw [Nat.zero_add] at hc
      rw [if_pos (by omega)] at hlg
      repeat (first | refine And.intro (by kernel_rfl) ?_ | refine And.intro (by decide) ?_)
      exact ⟨i + 1, ⟨h', by show gs.length - (i + 1) < gs.length - i; omega⟩, isAt.giv _ (MLe.fgt 1 (i + 1) rfl (by omega) (fun j c e => by cases e; show 0 + i < i + 1; omega)) (isAt.go [(2, .to 3)] ⟨s_len (by rw [hlg]; show (gs.getD (0 + i) []).length = _; rw [Nat.zero_add]), congrArg (int .i64) wi, trivial⟩ ⟨.inl rfl, leB.ints_eq (by rw [hlg]; show gs.getD (0 + i) [] = _; rw [Nat.zero_add]) id, trivial⟩)⟩
    · replace hc : ¬ ((gs.getD (0 + i) []).length : Int) > (B.length : Int) := hc
      rw [Nat.zero_add] at hc
      rw [if_neg (by omega)] at hlg
      repeat (first | refine And.intro (by kernel_rfl) ?_ | refine And.intro (by decide) ?_)
      exact ⟨i + 1, ⟨h', by show gs.length - (i + 1) < gs.length - i; omega⟩, isAt.giv _ (MLe.fgt 1 (i + 1) rfl (by omega) (fun j c e => by cases e; show 0 + i < i + 1; omega)) (.id ⟨s_len (by rw [hlg]), congrArg (int .i64) wi, trivial⟩ rfl ⟨.inl rfl, leB.ints_eq hlg.symm id, trivial⟩ rfl)⟩
  · obtain rfl : i = gs.length := by omega
    repeat (first | refine And.intro (by kernel_rfl) ?_ | refine And.intro (by decide) ?_)
    exact ⟨lgF gs, rfl, isEnd.go [(1, .to 2)] (by rw [List.take_length]; rfl) (by rw [List.take_length]; exact ⟨.inl rfl, .inl rfl, trivial⟩)⟩
/-- the first kind of which there is one group -/
def CmOk (xs : List Sn) (r : Nat) : Prop := (r = 0 ∧ ∀ q : Nat, 1 ≤ q → q ≤ 6 → (gk q xs).length ≠ 1) ∨ (1 ≤ r ∧ r ≤ 6 ∧ (gk r xs).length = 1 ∧ ∀ q : Nat, 1 ≤ q → q < r → (gk q xs).length ≠ 1)
theorem CmOk.eq {xs : List Sn} {r r' : Nat} (h : CmOk xs r) (h' : CmOk xs r') : r = r' := by
  rcases h with ⟨rfl, h⟩ | ⟨h1, h2, h3, h4⟩
  · rcases h' with ⟨rfl, _⟩ | ⟨k1, k2, k3, _⟩
    · rfl
    · exact absurd k3 (h r' k1 k2)
  · rcases h' with ⟨rfl, h'⟩ | ⟨k1, k2, k3, k4⟩
    · exact absurd h3 (h' r h1 h2)
    · rcases Nat.lt_trichotomy r r' with h | h | h
      · exact absurd h3 (k4 r h1 h)
      · exact h
      · exact absurd k3 (h4 r' k1 h)
set_option maxHeartbeats 3200000 in
set_option maxRecDepth 10000 in
theorem common_fc (xs : List Sn) (hl : xs.length ≤ 1000) : ∃ r : Nat, FC Try.prog 16 [.o (.c (.s 0 0 xs.length 8))] [snB xs false] (int .i64 (r : Int)) [snB xs false] ∧ CmOk xs r := by
  refine FC.rj mix Try.func16 ?_
  refine ALoop.go (X := Nat) (fun k => 1 ≤ k ∧ k ≤ 7 ∧ ∀ q : Nat, 1 ≤ q → q < k → (gk q xs).length ≠ 1) (fun k => 7 - k) [0] [0] (fun k => [(3, int .i64 (k : Int))]) (fun _ => []) 1 ⟨Nat.le_refl _, by omega, fun q h1 h2 => by omega⟩ ⟨rfl, trivial⟩ trivial ?_
  rintro k ⟨hk1, hk7, hno⟩
  dsimp only [headF, headM]
  refine bselD (fun h => ?_) (fun h => ?_)
  · have wk : IntKind.i64.wrap ((k : Int) + 1) = ((k + 1 : Nat) : Int) := wrap64_in (by omega) (by omega)
    repeat refine AJoin.plain ?_
    refine FC.x (groups_fc (k : Int) xs hl) [0] (fun gs hgs => ?_)
    repeat (first | refine And.intro (by kernel_rfl) ?_ | refine And.intro (by decide) ?_)
    refine bselE (fun hc => ?_) (fun hc => ?_)
    · repeat (first | refine And.intro (by kernel_rfl) ?_ | refine And.intro (by decide) ?_)
      exact ⟨k, .inr ⟨hk1, by omega, by rw [← hgs]; omega, hno⟩, .id rfl ⟨.inl rfl, trivial⟩⟩
    · repeat (first | refine And.intro (by kernel_rfl) ?_ | refine And.intro (by decide) ?_)
      refine ⟨k + 1, ⟨⟨by omega, by omega, fun q h1 h2 => ?_⟩, by show 7 - (k + 1) < 7 - k; omega⟩, .id ⟨congrArg (int .i64) wk, trivial⟩ rfl trivial rfl⟩
      rcases Nat.lt_or_ge q k with h3 | h3
      · exact hno q h1 h3
      · obtain rfl : q = k := by omega
        rw [← hgs]; omega
  · obtain rfl : k = 7 := by omega
    repeat (first | refine And.intro (by kernel_rfl) ?_ | refine And.intro (by decide) ?_)
    exact ⟨0, .inl ⟨rfl, fun q h1 h2 => hno q h1 (by omega)⟩, .id rfl ⟨.inl rfl, trivial⟩⟩
set_option maxHeartbeats 3200000 in
set_option maxRecDepth 10000 in
theorem rcommon_fc (xs : List Sn) (hl : xs.length ≤ 1000) : ∃ r : Nat, FC Try.prog 24 [.o (.c (.s 0 0 xs.length 8))] [snB xs false] (int .i64 (r : Int)) [snB xs false] ∧ CmOk xs r := by
  refine FC.rj mix Try.func24 ?_
  refine ALoop.go (X := Nat) (fun k => 1 ≤ k ∧ k ≤ 7 ∧ ∀ q : Nat, 1 ≤ q → q < k → (gk q xs).length ≠ 1) (fun k => 7 - k) [0] [0] (fun k => [(3, int .i64 (k : Int))]) (fun _ => []) 1 ⟨Nat.le_refl _, by omega, fun q h1 h2 => by omega⟩ ⟨rfl, trivial⟩ trivial ?_
  rintro k ⟨hk1, hk7, hno⟩
  dsimp only [headF, headM]
  refine bselD (fun h => ?_) (fun h => ?_)
  · have wk : IntKind.i64.wrap ((k : Int) + 1) = ((k + 1 : Nat) : Int) := wrap64_in (by omega) (by omega)
    repeat refine AJoin.plain ?_
    refine FC.x (rgroups_fc (k : Int) xs hl) [0] (fun gs hgs => ?_)
    repeat (first | refine And.intro (by kernel_rfl) ?_ | refine And.intro (by decide) ?_)
    refine bselE (fun hc => ?_) (fun hc => ?_)
    · repeat (first | refine And.intro (by kernel_rfl) ?_ | refine And.intro (by decide) ?_)
      exact ⟨k, .inr ⟨hk1, by omega, by rw [← hgs]; omega, hno⟩, .id rfl ⟨.inl rfl, trivial⟩⟩
    · repeat (first | refine And.intro (by kernel_rfl) ?_ | refine And.intro (by decide) ?_)
      refine ⟨k + 1, ⟨⟨by omega, by omega, fun q h1 h2 => ?_⟩, by show 7 - (k + 1) < 7 - k; omega⟩, .id ⟨congrArg (int .i64) wk, trivial⟩ rfl trivial rfl⟩
      rcases Nat.lt_or_ge q k with h3 | h3
      · exact hno q h1 h3
      · obtain rfl : q = k := by omega
        rw [← hgs]; omega
  · obtain rfl : k = 7 := by omega
    repeat (first | refine And.intro (by kernel_rfl) ?_ | refine And.intro (by decide) ?_)
    exact ⟨0, .inl ⟨rfl, fun q h1 h2 => hno q h1 (by omega)⟩, .id rfl ⟨.inl rfl, trivial⟩⟩
end Go.Sx.T1
namespace Go.Sx.T1
open Go.Proofs
set_option maxHeartbeats 3200000 in
set_option maxRecDepth 10000 in
theorem ints_fc (xs ys : List Int) (hx : xs.length ≤ 100000) : FC Try.prog 27 [.o (.c (.s 0 0 xs.length 1)), .o (.c (.s 1 0 ys.length 1))] [i64s xs false, i64s ys false] (boo (decide (xs = ys))) [i64s xs false, i64s ys false] := by
  refine FC.one (FC.rj mix Try.func27 ?_)
  refine bselN (fun h => ?_) (fun h => ?_)
  · repeat (first | refine And.intro (by kernel_rfl) ?_ | refine And.intro (by decide) ?_)
    refine ⟨(), trivial, .id (congrArg boo ?_) ⟨.inl rfl, .inl rfl, trivial⟩⟩
    have : xs ≠ ys := fun e => by subst e; exact h rfl
    simp [this]
  replace h : (xs.length : Int) = (ys.length : Int) := h
  have hl : xs.length = ys.length := by omega
  repeat (first | refine And.intro (by kernel_rfl) ?_ | refine And.intro (by decide) ?_)
  refine ALoop.go (X := Nat) (fun i => i ≤ xs.length ∧ ∀ q, q < i → xs.getD q 0 = ys.getD q 0) (fun i => xs.length - i) [1, 12, 13] [0, 1] (fun i => [(14, int .i64 (i : Int))]) (fun _ => []) 0 ⟨Nat.zero_le _, fun q h => by omega⟩ ⟨rfl, trivial⟩ trivial ?_
  rintro i ⟨hi, ha⟩
  dsimp only [headF, headM]
  refine bselD (fun h => ?_) (fun h => ?_)
  · have h' : i < xs.length := by omega
    have wi : IntKind.i64.wrap ((i : Int) + 1) = ((i + 1 : Nat) : Int) := wrap64_in (by omega) (by omega)
    repeat refine AJoin.plain ?_
    refine And.intro ⟨by omega, h⟩ ?_
    refine And.intro (by show 0 + i < xs.length; omega) ?_
    refine And.intro ⟨by omega, by show (i : Int) < (ys.length : Int); omega⟩ ?_
    refine And.intro (by show 0 + i < ys.length; omega) ?_
    refine bselN (fun hc => ?_) (fun hc => ?_)
    · replace hc : ¬ ys.getD (0 + i) 0 = xs.getD (0 + i) 0 := hc
      repeat (first | refine And.intro (by kernel_rfl) ?_ | refine And.intro (by decide) ?_)
      refine ⟨(), trivial, .id (congrArg boo ?_) ⟨.inl rfl, .inl rfl, trivial⟩⟩
      have : xs ≠ ys := fun e => by subst e; exact hc rfl
      simp [this]
    · replace hc : ys.getD (0 + i) 0 = xs.getD (0 + i) 0 := hc
      rw [Nat.zero_add] at hc
      repeat (first | refine And.intro (by kernel_rfl) ?_ | refine And.intro (by decide) ?_)
      refine ⟨i + 1, ⟨⟨h', fun q hq => ?_⟩, by show xs.length - (i + 1) < xs.length - i; omega⟩, .id ⟨congrArg (int .i64) wi, trivial⟩ rfl trivial rfl⟩
      rcases Nat.lt_or_ge q i with h3 | h3
      · exact ha q h3
      · obtain rfl : q = i := by omega
        exact hc.symm
  · obtain rfl : i = xs.length := by omega
    repeat (first | refine And.intro (by kernel_rfl) ?_ | refine And.intro (by decide) ?_)
    refine ⟨(), trivial, .id (congrArg boo ?_) ⟨.inl rfl, .inl rfl, trivial⟩⟩
    have : xs = ys := List.ext_getElem hl fun q h1 h2 => by
      have := ha q h1
      simpa [List.getD, h1, h2] using this
    simp [this]
theorem ints_x (xs ys : List Int) (hx : xs.length ≤ 100000) : ∃ c : Bool, FC Try.prog 27 [.o (.c (.s 0 0 xs.length 1)), .o (.c (.s 1 0 ys.length 1))] [i64s xs false, i64s ys false] (boo c) [i64s xs false, i64s ys false] ∧ (c = true ↔ xs = ys) :=
  ⟨_, ints_fc xs ys hx, decide_eq_true_iff⟩
set_option maxHeartbeats 3200000 in
set_option maxRecDepth 10000 in
theorem sameg_fc (us vs : List (List Int)) (ha : us.length ≤ 100000) (hr : ∀ q, (us.getD q []).length ≤ 100000) : ∃ c : Bool, FC Try.prog 25 [.o (.c (.s 0 0 us.length 1)), .o (.c (.s 1 0 vs.length 1))] [dpB us false, dpB vs false] (boo c) [dpB us false, dpB vs false] ∧ (c = true ↔ us = vs) := by
  refine FC.rj mix Try.func25 ?_
  refine bselN (fun h => ?_) (fun h => ?_)
  · repeat (first | refine And.intro (by kernel_rfl) ?_ | refine And.intro (by decide) ?_)
    refine ⟨false, ⟨(fun h => by cases h), fun e => ?_⟩, .id rfl ⟨.inl rfl, .inl rfl, trivial⟩⟩
    subst e; exact absurd rfl h
  replace h : (us.length : Int) = (vs.length : Int) := h
  have hl : us.length = vs.length := by omega
  repeat (first | refine And.intro (by kernel_rfl) ?_ | refine And.intro (by decide) ?_)
  refine ALoop.go (X := Nat) (fun i => i ≤ us.length ∧ ∀ q, q < i → us.getD q [] = vs.getD q []) (fun i => us.length - i) [1, 12, 13] [0, 1] (fun i => [(14, int .i64 (i : Int))]) (fun _ => []) 0 ⟨Nat.zero_le _, fun q h => by omega⟩ ⟨rfl, trivial⟩ trivial ?_
  rintro i ⟨hi, hall⟩
  dsimp only [headF, headM]
  refine bselD (fun h => ?_) (fun h => ?_)
  · have h' : i < us.length := by omega
    have wi : IntKind.i64.wrap ((i : Int) + 1) = ((i + 1 : Nat) : Int) := wrap64_in (by omega) (by omega)
    repeat refine AJoin.plain ?_
    refine And.intro ⟨by omega, h⟩ ?_
    refine And.intro ⟨Nat.zero_le _, by show 0 + i < us.length; omega⟩ ?_
    refine And.intro ⟨by omega, by show (i : Int) < (vs.length : Int); omega⟩ ?_
    refine And.intro ⟨Nat.zero_le _, by show 0 + i < vs.length; omega⟩ ?_
    refine FC.x (ints_x (us.getD (0 + i) []) (vs.getD (0 + i) []) (hr _)) [2, 3] (fun c hc => ?_)
    rw [Nat.zero_add] at hc
    refine bselNot (bsel_intro (fun h1 => ?_) (fun h1 => ?_))
    · repeat (first | refine And.intro (by kernel_rfl) ?_ | refine And.intro (by decide) ?_)
      refine ⟨i + 1, ⟨⟨h', fun q hq => ?_⟩, by show us.length - (i + 1) < us.length - i; omega⟩, .id ⟨congrArg (int .i64) wi, trivial⟩ rfl trivial rfl⟩
      rcases Nat.lt_or_ge q i with h3 | h3
      · exact hall q h3
      · obtain rfl : q = i := by omega
        exact hc.1 h1
    · repeat (first | refine And.intro (by kernel_rfl) ?_ | refine And.intro (by decide) ?_)
      refine ⟨false, ⟨(fun h => by cases h), fun e => ?_⟩, .id rfl ⟨.inl rfl, .inl rfl, trivial⟩⟩
      subst e
      rw [hc.2 rfl] at h1; cases h1
  · obtain rfl : i = us.length := by omega
    repeat (first | refine And.intro (by kernel_rfl) ?_ | refine And.intro (by decide) ?_)
    refine ⟨true, ⟨fun _ => ?_, fun _ => rfl⟩, .id rfl ⟨.inl rfl, .inl rfl, trivial⟩⟩
    exact List.ext_getElem hl fun q h1 h2 => by
      have := hall q h1
      simpa [List.getD, h1, h2] using this
/-- the sanity check's sightings -/
def awA : Sn := ⟨zero6, 3, 0⟩
def awC : Sn := ⟨⟨0, 0, 0, 0, 0, 1⟩, 3, 0⟩
theorem aw_common {r : Nat} (h : CmOk [awA, awC] r) : r = 2 := by
  have h1 : (gk (1 : Nat) [awA, awC]).length ≠ 1 := by decide
  refine h.eq (.inr ⟨by decide, by decide, by decide, fun q h2 h3 => ?_⟩)
  obtain rfl : q = 1 := by omega
  exact h1
theorem aw_same2 : FC Try.prog 14 [int .i64 2, snS awA, snS awC] [] (boo true) [] := by
  have := same_fc 2 awA awC
  rwa [show smB 2 awA awC = true by decide] at this
theorem aw_same3 : FC Try.prog 14 [int .i64 3, snS awA, snS awC] [] (boo false) [] := by
  have := same_fc 3 awA awC
  rwa [show smB 3 awA awC = false by decide] at this
theorem two_cases {P : Nat → Prop} (h0 : P 0) (h1 : P 1) : ∀ i, i < 2 → P i := fun i hi => by
  rcases (show i = 0 ∨ i = 1 by omega) with rfl | rfl
  · exact h0
  · exact h1
theorem three_cases {P : Nat → Prop} (h0 : P 0) (h1 : P 1) (h2 : P 2) : ∀ i, i < 3 → P i := fun i hi => by
  rcases (show i = 0 ∨ i = 1 ∨ i = 2 by omega) with rfl | rfl | rfl
  · exact h0
  · exact h1
  · exact h2
set_option maxHeartbeats 3200000 in
set_option maxRecDepth 10000 in
theorem awake_fc : FC Try.prog 9 [] [] (boo true) [] := by
  refine FC.one (FC.r mix Try.func9 ?_)
  repeat (first | refine And.intro (by kernel_rfl) ?_ | refine And.intro (by decide) ?_)
  refine FC.x (common_fc [awA, awC] (by decide)) [2] (fun r hr => ?_) (hrd := ⟨.inr (.inr (leB.rows (Nat.le_refl _) (two_cases rfl rfl) (fun h => by cases h))), trivial⟩)
  obtain rfl := aw_common hr
  repeat (first | refine And.intro (by kernel_rfl) ?_ | refine And.intro (by decide) ?_)
  refine FC.u aw_same2 [] ?_
  refine FC.u aw_same3 [] ?_
  repeat (first | refine And.intro (by kernel_rfl) ?_ | refine And.intro (by decide) ?_)
  refine FC.x (groups_fc 1 [awA, awC, awA] (by decide)) [3] (fun g hg => ?_) (hrd := ⟨.inr (.inr (leB.rows (Nat.le_refl _) (three_cases rfl rfl rfl) (fun h => by cases h))), trivial⟩)
  have hl : g.length = 2 := by rw [hg]; decide
  repeat (first | refine And.intro (by kernel_rfl) ?_ | refine And.intro (by decide) ?_)
  exact ⟨(), trivial, .id (congrArg boo (by rw [hl]; rfl)) trivial⟩
end Go.Sx.T1
namespace Go.Sx.T1
open Go.Proofs
/-- how many different keys -/
def cn {α : Type} (κ : α → Ky) (xs : List α) : Nat := (dk (xs.map κ)).length
theorem cn_le {α : Type} (κ : α → Ky) (xs : List α) : cn κ xs ≤ xs.length := by
  have := dk_len (xs.map κ)
  simpa [cn] using this
theorem cn_snoc {α : Type} (κ : α → Ky) (xs : List α) (x : α) : cn κ (xs ++ [x]) = cn κ xs + (if κ x ∈ xs.map κ then 0 else 1) := by
  unfold cn
  rw [List.map_append]
  show (dk (xs.map κ ++ [κ x])).length = _
  rw [dk_snoc]
  by_cases h : κ x ∈ xs.map κ
  · rw [if_pos ((mem_dk _ _).2 h), if_pos h]; rfl
  · rw [if_neg (fun e => h ((mem_dk _ _).1 e)), if_neg h, List.length_append]; rfl
/-- keys that tell the same apart -/
theorem cn_same {α : Type} {κ κ' : α → Ky} (h : ∀ x y, κ x = κ y ↔ κ' x = κ' y) (xs : List α) : cn κ xs = cn κ' xs := by
  revert xs
  refine snoc_ind rfl fun xs x ih => ?_
  rw [cn_snoc, cn_snoc, ih]
  have : κ x ∈ xs.map κ ↔ κ' x ∈ xs.map κ' := by
    simp only [List.mem_map]
    exact ⟨fun ⟨y, hy, e⟩ => ⟨y, hy, (h y x).1 e⟩, fun ⟨y, hy, e⟩ => ⟨y, hy, (h y x).2 e⟩⟩
  simp only [this]
/-- a place's part -/
def plL (kind : Int) (x : Sn) : Ky := [(whP kind x.p).a, (whP kind x.p).b, (whP kind x.p).c, (whP kind x.p).d, (whP kind x.p).e, (whP kind x.p).f]
def kbox (kind : Int) (wr : Bool) : Option Blk := some ⟨.box [.v (.int .i64 kind)], wr⟩
set_option maxHeartbeats 3200000 in
set_option maxRecDepth 10000 in
theorem spot_fc (kind chip : Int) (p : S6) : FC Try.prog 34 [s6S p, int .i64 chip, .o (.c (.p 0 0 0))] [kbox kind false] (s6S (whP kind p)) [kbox kind false] := by
  refine FC.one (FC.r mix Try.func34 ?_)
  repeat (first | refine And.intro (by kernel_rfl) ?_ | refine And.intro (by decide) ?_)
  refine FC.u (where_fc kind p) [] ?_
  repeat (first | refine And.intro (by kernel_rfl) ?_ | refine And.intro (by decide) ?_)
  exact ⟨(), trivial, .id rfl ⟨.inl rfl, trivial⟩⟩
def spF (n : Nat) : C := .f 34 [] [.p n 0 0]
set_option maxHeartbeats 3200000 in
set_option maxRecDepth 10000 in
theorem of_fc (kind : Int) : FC Try.prog 33 [int .i64 kind] [] (.o (.c (spF 0))) [kbox kind true] := by
  refine FC.one (FC.r mix Try.func33 ?_)
  repeat (first | refine And.intro (by kernel_rfl) ?_ | refine And.intro (by decide) ?_)
  exact ⟨(), trivial, .id rfl ⟨.inl rfl, trivial⟩⟩
set_option maxHeartbeats 3200000 in
set_option maxRecDepth 10000 in
theorem spot2_fc (chip : Int) (p : S6) : FC Try.prog 37 [s6S p, int .i64 chip] [] (.o (.a (keyC (keyL 5 ⟨p, chip, 0⟩)))) [] := by
  refine FC.one (FC.r mix Try.func37 ?_)
  repeat (first | refine And.intro (by kernel_rfl) ?_ | refine And.intro (by decide) ?_)
  refine FC.u (where_fc 5 p) [] ?_
  repeat (first | refine And.intro (by kernel_rfl) ?_ | refine And.intro (by decide) ?_)
  exact ⟨(), trivial, .id rfl trivial⟩
set_option maxHeartbeats 3200000 in
set_option maxRecDepth 10000 in
theorem distinct_fc (kind : Int) (xs : List Sn) (hl : xs.length ≤ 1000) : ∃ r : Nat, FC Try.prog 35 [.o (.c (.s 0 0 xs.length 8)), .o (.c (spF 1))] [snB xs false, kbox kind false] (int .i64 (r : Int)) [snB xs false, kbox kind false] ∧ r = cn (plL kind) xs := by
  refine FC.rj mix Try.func35 ?_
  repeat (first | refine And.intro (by kernel_rfl) ?_ | refine And.intro (by decide) ?_)
  refine ALoop.go (X := Nat) (fun i => i ≤ xs.length) (fun i => xs.length - i) [1, 4, 5, 9, 10] [0, 1] (fun i => [(11, int .i64 (i : Int))]) (fun i => [(2, ⟨.map .many (trs (dk ((xs.map (plL kind)).take i))), true⟩)]) 0 (Nat.zero_le _) ⟨rfl, trivial⟩ ⟨.inl rfl, trivial⟩ ?_
  rintro i hi
  dsimp only [headF, headM]
  refine bselD (fun h => ?_) (fun h => ?_)
  rotate_left
  · obtain rfl : i = xs.length := by omega
    have e : (xs.map (plL kind)).take xs.length = xs.map (plL kind) := by rw [List.take_of_length_le]; simp
    have el : (trs (dk ((xs.map (plL kind)).take xs.length))).length = cn (plL kind) xs := by rw [e, trs_len]; rfl
    repeat (first | refine And.intro (by kernel_rfl) ?_ | refine And.intro (by decide) ?_)
    exact ⟨cn (plL kind) xs, rfl, .id (by rw [← el]; rfl) ⟨.inl rfl, .inl rfl, trivial⟩⟩
  have h' : i < xs.length := by omega
  have wi : IntKind.i64.wrap ((i : Int) + 1) = ((i + 1 : Nat) : Int) := wrap64_in (by omega) (by omega)
  have hstep : (xs.map (plL kind)).take (i + 1) = (xs.map (plL kind)).take i ++ [plL kind (xs.getD (0 + i) sn0)] := by rw [Nat.zero_add]; exact take_key (plL kind) xs sn0 h'
  have hlen : ∀ k ∈ dk ((xs.map (plL kind)).take i), k.length = 6 := fun k hk => by
    obtain ⟨x, _, rfl⟩ := List.mem_map.1 (List.mem_of_mem_take ((mem_dk _ _).1 hk))
    rfl
  generalize hK : (xs.map (plL kind)).take i = K at *
  refine And.intro ⟨by omega, h⟩ ?_
  refine And.intro (by show 0 + i < xs.length; omega) ?_
  repeat (first | refine And.intro (by kernel_rfl) ?_ | refine And.intro (by decide) ?_)
  refine FC.u (spot_fc kind (xs.getD (0 + i) sn0).chip (xs.getD (0 + i) sn0).p) [1] ?_
  repeat (first | refine And.intro (by kernel_rfl) ?_ | refine And.intro (by decide) ?_)
  refine And.intro (fun p hp => hlen _ (trs_mem hp)) ?_
  repeat (first | refine And.intro (by kernel_rfl) ?_ | refine And.intro (by decide) ?_)
  exact ⟨i + 1, ⟨h', by show xs.length - (i + 1) < xs.length - i; omega⟩, .id ⟨congrArg (int .i64) wi, trivial⟩ rfl ⟨leMp (by rw [hstep, ← trs_step]; rfl), trivial⟩ rfl⟩
set_option maxHeartbeats 3200000 in
set_option maxRecDepth 10000 in
theorem distinct2_fc (xs : List Sn) (hl : xs.length ≤ 1000) : ∃ r : Nat, FC Try.prog 36 [.o (.c (.s 0 0 xs.length 8)), vv (.func (.func 37) #[] #[])] [snB xs false] (int .i64 (r : Int)) [snB xs false] ∧ r = cn (keyL 5) xs := by
  refine FC.rj mix Try.func36 ?_
  repeat (first | refine And.intro (by kernel_rfl) ?_ | refine And.intro (by decide) ?_)
  refine ALoop.go (X := Nat) (fun i => i ≤ xs.length) (fun i => xs.length - i) [1, 4, 5, 9, 10] [0] (fun i => [(11, int .i64 (i : Int))]) (fun i => [(1, ⟨.map .many (trs (dk ((xs.map (keyL 5)).take i))), true⟩)]) 0 (Nat.zero_le _) ⟨rfl, trivial⟩ ⟨.inl rfl, trivial⟩ ?_
  rintro i hi
  dsimp only [headF, headM]
  refine bselD (fun h => ?_) (fun h => ?_)
  rotate_left
  · obtain rfl : i = xs.length := by omega
    have e : (xs.map (keyL 5)).take xs.length = xs.map (keyL 5) := by rw [List.take_of_length_le]; simp
    have el : (trs (dk ((xs.map (keyL 5)).take xs.length))).length = cn (keyL 5) xs := by rw [e, trs_len]; rfl
    repeat (first | refine And.intro (by kernel_rfl) ?_ | refine And.intro (by decide) ?_)
    exact ⟨cn (keyL 5) xs, rfl, .id (by rw [← el]; rfl) ⟨.inl rfl, trivial⟩⟩
  have h' : i < xs.length := by omega
  have wi : IntKind.i64.wrap ((i : Int) + 1) = ((i + 1 : Nat) : Int) := wrap64_in (by omega) (by omega)
  have hstep : (xs.map (keyL 5)).take (i + 1) = (xs.map (keyL 5)).take i ++ [keyL 5 (xs.getD (0 + i) sn0)] := by rw [Nat.zero_add]; exact take_key (keyL 5) xs sn0 h'
  have hlen : ∀ k ∈ dk ((xs.map (keyL 5)).take i), k.length = 7 := fun k hk => by
    obtain ⟨x, _, rfl⟩ := List.mem_map.1 (List.mem_of_mem_take ((mem_dk _ _).1 hk))
    rfl
  generalize hK : (xs.map (keyL 5)).take i = K at *
  refine And.intro ⟨by omega, h⟩ ?_
  refine And.intro (by show 0 + i < xs.length; omega) ?_
  repeat (first | refine And.intro (by kernel_rfl) ?_ | refine And.intro (by decide) ?_)
  refine FC.u (spot2_fc (xs.getD (0 + i) sn0).chip (xs.getD (0 + i) sn0).p) [] ?_
  repeat (first | refine And.intro (by kernel_rfl) ?_ | refine And.intro (by decide) ?_)
  refine And.intro (fun p hp => hlen _ (trs_mem hp)) ?_
  repeat (first | refine And.intro (by kernel_rfl) ?_ | refine And.intro (by decide) ?_)
  exact ⟨i + 1, ⟨h', by show xs.length - (i + 1) < xs.length - i; omega⟩, .id ⟨congrArg (int .i64) wi, trivial⟩ rfl ⟨leMp (by rw [hstep, ← trs_step]; rfl), trivial⟩ rfl⟩
/-- the reference's keys -/
def snL (kind : Int) (chip : Bool) (x : Sn) : Ky := [(whP kind x.p).a, (whP kind x.p).b, (whP kind x.p).c, (whP kind x.p).d, (whP kind x.p).e, (whP kind x.p).f, match chip with | true => x.chip | false => 0, 0]
set_option maxHeartbeats 3200000 in
set_option maxRecDepth 10000 in
theorem rdistinctT_fc (kind : Int) (hw : whB kind = true) (xs : List Sn) (hl : xs.length ≤ 1000) : ∃ r : Nat, FC Try.prog 41 [.o (.c (.s 0 0 xs.length 8)), int .i64 kind, boo true] [snB xs false] (int .i64 (r : Int)) [snB xs false] ∧ r = cn (snL kind true) xs := by
  refine FC.rj mix Try.func41 ?_
  repeat (first | refine And.intro (by kernel_rfl) ?_ | refine And.intro (by decide) ?_)
  refine ALoop.go (X := Nat) (fun i => i ≤ xs.length) (fun i => xs.length - i) [1, 2, 6, 7, 12, 13] [0] (fun i => [(14, int .i64 (i : Int))]) (fun i => [(1, ⟨.map .many (trs (dk ((xs.map (snL kind true)).take i))), true⟩)]) 0 (Nat.zero_le _) ⟨rfl, trivial⟩ ⟨.inl rfl, trivial⟩ ?_
  rintro i hi
  dsimp only [headF, headM]
  refine bselD (fun h => ?_) (fun h => ?_)
  rotate_left
  · obtain rfl : i = xs.length := by omega
    have e : (xs.map (snL kind true)).take xs.length = xs.map (snL kind true) := by rw [List.take_of_length_le]; simp
    have el : (trs (dk ((xs.map (snL kind true)).take xs.length))).length = cn (snL kind true) xs := by rw [e, trs_len]; rfl
    repeat (first | refine And.intro (by kernel_rfl) ?_ | refine And.intro (by decide) ?_)
    exact ⟨cn (snL kind true) xs, rfl, .id (by rw [← el]; rfl) ⟨.inl rfl, trivial⟩⟩
  have h' : i < xs.length := by omega
  have wi : IntKind.i64.wrap ((i : Int) + 1) = ((i + 1 : Nat) : Int) := wrap64_in (by omega) (by omega)
  have hstep : (xs.map (snL kind true)).take (i + 1) = (xs.map (snL kind true)).take i ++ [snL kind true (xs.getD (0 + i) sn0)] := by rw [Nat.zero_add]; exact take_key (snL kind true) xs sn0 h'
  have hlen : ∀ k ∈ dk ((xs.map (snL kind true)).take i), k.length = 8 := fun k hk => by
    obtain ⟨x, _, rfl⟩ := List.mem_map.1 (List.mem_of_mem_take ((mem_dk _ _).1 hk))
    rfl
  generalize hK : (xs.map (snL kind true)).take i = K at *
  refine And.intro ⟨by omega, h⟩ ?_
  refine And.intro (by show 0 + i < xs.length; omega) ?_
  repeat (first | refine And.intro (by kernel_rfl) ?_ | refine And.intro (by decide) ?_)
  refine FC.u (part_fc kind (xs.getD (0 + i) sn0).p hw) [] ?_
  repeat refine AJoin.plain ?_
  repeat (first | refine And.intro (by kernel_rfl) ?_ | refine And.intro (by decide) ?_)
  refine And.intro (fun p hp => hlen _ (trs_mem hp)) ?_
  repeat (first | refine And.intro (by kernel_rfl) ?_ | refine And.intro (by decide) ?_)
  exact ⟨i + 1, ⟨h', by show xs.length - (i + 1) < xs.length - i; omega⟩, .id ⟨congrArg (int .i64) wi, trivial⟩ rfl ⟨leMp (by rw [hstep, ← trs_step]; rfl), trivial⟩ rfl⟩
set_option maxHeartbeats 3200000 in
set_option maxRecDepth 10000 in
theorem rdistinctF_fc (kind : Int) (hw : whB kind = true) (xs : List Sn) (hl : xs.length ≤ 1000) : ∃ r : Nat, FC Try.prog 41 [.o (.c (.s 0 0 xs.length 8)), int .i64 kind, boo false] [snB xs false] (int .i64 (r : Int)) [snB xs false] ∧ r = cn (snL kind false) xs := by
  refine FC.rj mix Try.func41 ?_
  repeat (first | refine And.intro (by kernel_rfl) ?_ | refine And.intro (by decide) ?_)
  refine ALoop.go (X := Nat) (fun i => i ≤ xs.length) (fun i => xs.length - i) [1, 2, 6, 7, 12, 13] [0] (fun i => [(14, int .i64 (i : Int))]) (fun i => [(1, ⟨.map .many (trs (dk ((xs.map (snL kind false)).take i))), true⟩)]) 0 (Nat.zero_le _) ⟨rfl, trivial⟩ ⟨.inl rfl, trivial⟩ ?_
  rintro i hi
  dsimp only [headF, headM]
  refine bselD (fun h => ?_) (fun h => ?_)
  rotate_left
  · obtain rfl : i = xs.length := by omega
    have e : (xs.map (snL kind false)).take xs.length = xs.map (snL kind false) := by rw [List.take_of_length_le]; simp
    have el : (trs (dk ((xs.map (snL kind false)).take xs.length))).length = cn (snL kind false) xs := by rw [e, trs_len]; rfl
    repeat (first | refine And.intro (by kernel_rfl) ?_ | refine And.intro (by decide) ?_)
    exact ⟨cn (snL kind false) xs, rfl, .id (by rw [← el]; rfl) ⟨.inl rfl, trivial⟩⟩
  have h' : i < xs.length := by omega
  have wi : IntKind.i64.wrap ((i : Int) + 1) = ((i + 1 : Nat) : Int) := wrap64_in (by omega) (by omega)
  have hstep : (xs.map (snL kind false)).take (i + 1) = (xs.map (snL kind false)).take i ++ [snL kind false (xs.getD (0 + i) sn0)] := by rw [Nat.zero_add]; exact take_key (snL kind false) xs sn0 h'
  have hlen : ∀ k ∈ dk ((xs.map (snL kind false)).take i), k.length = 8 := fun k hk => by
    obtain ⟨x, _, rfl⟩ := List.mem_map.1 (List.mem_of_mem_take ((mem_dk _ _).1 hk))
    rfl
  generalize hK : (xs.map (snL kind false)).take i = K at *
  refine And.intro ⟨by omega, h⟩ ?_
  refine And.intro (by show 0 + i < xs.length; omega) ?_
  repeat (first | refine And.intro (by kernel_rfl) ?_ | refine And.intro (by decide) ?_)
  refine FC.u (part_fc kind (xs.getD (0 + i) sn0).p hw) [] ?_
  repeat refine AJoin.plain ?_
  repeat (first | refine And.intro (by kernel_rfl) ?_ | refine And.intro (by decide) ?_)
  refine And.intro (fun p hp => hlen _ (trs_mem hp)) ?_
  repeat (first | refine And.intro (by kernel_rfl) ?_ | refine And.intro (by decide) ?_)
  exact ⟨i + 1, ⟨h', by show xs.length - (i + 1) < xs.length - i; omega⟩, .id ⟨congrArg (int .i64) wi, trivial⟩ rfl ⟨leMp (by rw [hstep, ← trs_step]; rfl), trivial⟩ rfl⟩
end Go.Sx.T1
namespace Go.Sx.T1
open Go.Proofs
/-- what sightings spread over -/
structure Spr where
  c6 : Nat
  c5 : Nat
  h5 : Nat
  c4 : Nat
  c2 : Nat
  c3 : Nat
  c1 : Nat
def spC (x : Spr) : List C := [.v (.int .i64 (x.c6 : Int)), .v (.int .i64 (x.c5 : Int)), .v (.int .i64 (x.h5 : Int)), .v (.int .i64 (x.c4 : Int)), .v (.int .i64 (x.c2 : Int)), .v (.int .i64 (x.c3 : Int)), .v (.int .i64 (x.c1 : Int))]
def sprF (xs : List Sn) : Spr := ⟨cn (plL 6) xs, cn (plL 5) xs, cn (keyL 5) xs, cn (plL 4) xs, cn (plL 2) xs, cn (plL 3) xs, cn (plL 1) xs⟩
set_option maxHeartbeats 3200000 in
set_option maxRecDepth 10000 in
theorem spread_fc (xs : List Sn) (hl : xs.length ≤ 1000) : ∃ r : Spr, FC Try.prog 15 [.o (.c (.s 0 0 xs.length 8))] [snB xs false] (.o (.a (spC r))) [snB xs false] ∧ r = sprF xs := by
  refine FC.r mix Try.func15 ?_
  refine FC.u (of_fc 6) [] ?_
  refine FC.x (distinct_fc 6 xs hl) [0, 2] (fun c6 e6 => ?_)
  refine FC.u (of_fc 5) [] ?_
  refine FC.x (distinct_fc 5 xs hl) [0, 3] (fun c5 e5 => ?_)
  refine FC.x (distinct2_fc xs hl) [0] (fun h5 e7 => ?_)
  refine FC.u (of_fc 4) [] ?_
  refine FC.x (distinct_fc 4 xs hl) [0, 4] (fun c4 e4 => ?_)
  refine FC.u (of_fc 2) [] ?_
  refine FC.x (distinct_fc 2 xs hl) [0, 5] (fun c2 e2 => ?_)
  refine FC.u (of_fc 3) [] ?_
  refine FC.x (distinct_fc 3 xs hl) [0, 6] (fun c3 e3 => ?_)
  refine FC.u (of_fc 1) [] ?_
  refine FC.x (distinct_fc 1 xs hl) [0, 7] (fun c1 e1 => ?_)
  repeat (first | refine And.intro (by kernel_rfl) ?_ | refine And.intro (by decide) ?_)
  exact ⟨⟨c6, c5, h5, c4, c2, c3, c1⟩, by rw [sprF, e1, e2, e3, e4, e5, e6, e7], .id rfl ⟨.inl rfl, trivial⟩⟩
theorem sn_pl (k : Int) (xs : List Sn) : cn (snL k false) xs = cn (plL k) xs := cn_same (fun x y => by simp [snL, plL]) xs
theorem sn_key (k : Int) (xs : List Sn) : cn (snL k true) xs = cn (keyL k) xs := cn_same (fun x y => by simp [snL, keyL]) xs
set_option maxHeartbeats 3200000 in
set_option maxRecDepth 10000 in
theorem rspread_fc (xs : List Sn) (hl : xs.length ≤ 1000) : ∃ r : Spr, FC Try.prog 23 [.o (.c (.s 0 0 xs.length 8))] [snB xs false] (.o (.a (spC r))) [snB xs false] ∧ r = sprF xs := by
  refine FC.r mix Try.func23 ?_
  refine FC.x (rdistinctF_fc 6 rfl xs hl) [0] (fun c6 e6 => ?_)
  refine FC.x (rdistinctF_fc 5 rfl xs hl) [0] (fun c5 e5 => ?_)
  refine FC.x (rdistinctT_fc 5 rfl xs hl) [0] (fun h5 e7 => ?_)
  refine FC.x (rdistinctF_fc 4 rfl xs hl) [0] (fun c4 e4 => ?_)
  refine FC.x (rdistinctF_fc 2 rfl xs hl) [0] (fun c2 e2 => ?_)
  refine FC.x (rdistinctF_fc 3 rfl xs hl) [0] (fun c3 e3 => ?_)
  refine FC.x (rdistinctF_fc 1 rfl xs hl) [0] (fun c1 e1 => ?_)
  repeat (first | refine And.intro (by kernel_rfl) ?_ | refine And.intro (by decide) ?_)
  rw [sn_pl] at e1 e2 e3 e4 e5 e6
  rw [sn_key] at e7
  exact ⟨⟨c6, c5, h5, c4, c2, c3, c1⟩, by rw [sprF, e1, e2, e3, e4, e5, e6, e7], .id rfl ⟨.inl rfl, trivial⟩⟩
end Go.Sx.T1
namespace Go.Sx.T1.Counts
open Go.Proofs Go.Sx.T1
/-- of one chip -/
def stC (x : Sn) : Sn := ⟨x.p, 2, x.time⟩
def chg (xs : List Sn) (i : Nat) : List Sn := (xs.take i).map stC ++ xs.drop i
theorem chg_len (xs : List Sn) {i : Nat} (h : i ≤ xs.length) : (chg xs i).length = xs.length := by simp [chg]; omega
theorem chg_get (xs : List Sn) {i q : Nat} (h : i ≤ xs.length) (hq : q < xs.length) : (chg xs i).getD q sn0 = if q < i then stC (xs.getD q sn0) else xs.getD q sn0 := by
  unfold chg
  by_cases hc : q < i
  · rw [if_pos hc]
    simp only [List.getD]
    rw [List.getElem?_append_left (by simp; omega)]
    simp [List.getElem?_take_of_lt hc, hq]
  · rw [if_neg hc]
    simp only [List.getD]
    rw [List.getElem?_append_right (by simp; omega)]
    simp only [List.length_map, List.length_take, Nat.min_eq_left h, List.getElem?_drop]
    rw [show i + (q - i) = q by omega]
theorem chg_all (xs : List Sn) : chg xs xs.length = xs.map stC := by simp [chg]
theorem cn_map {α β : Type} (κ : β → Ky) (f : α → β) (xs : List α) : cn κ (xs.map f) = cn (fun x => κ (f x)) xs := by unfold cn; rw [List.map_map]; rfl
theorem one_chip (k : Int) (xs : List Sn) : cn (plL k) (xs.map stC) = cn (keyL k) (xs.map stC) := by
  rw [cn_map, cn_map]
  exact cn_same (fun x y => by simp [plL, keyL, stC]) xs
theorem gk_cn {k : Int} (h : whB k = true) (xs : List Sn) : (gk k xs).length = cn (keyL k) xs := by rw [gk, if_pos h, gr_len]; rfl
theorem chg_step (xs : List Sn) {i q : Nat} (h : i < xs.length) (hq : q < xs.length) : (if q = 0 + i then (if [C.v (.int .i64 2)].length = 8 then [C.v (.int .i64 2)] else repl (snC ((chg xs i).getD (0 + i) sn0)) 6 [C.v (.int .i64 2)]) else snC ((chg xs i).getD q sn0)) = snC ((chg xs (i + 1)).getD q sn0) := by
  rw [chg_get xs (show i + 1 ≤ xs.length by omega) hq, Nat.zero_add]
  by_cases e : q = i
  · subst e
    rw [if_pos rfl, if_neg (show ¬ [C.v (.int .i64 2)].length = 8 by decide), if_pos (Nat.lt_succ_self q), chg_get xs (Nat.le_of_lt h) h, if_neg (Nat.lt_irrefl q)]
    rfl
  · rw [if_neg e, chg_get xs (by omega) hq]
    by_cases h2 : q < i
    · rw [if_pos h2, if_pos (by omega)]
    · rw [if_neg h2, if_neg (by omega)]
def eN (m : List Sn) (k q : Nat) : Int := if q < k then ((gk (q : Int) m).length : Int) else 0
def eB (m : List Sn) (k : Nat) : Bk := .box [.v (.int .i64 0), .v (.int .i64 (eN m k 1)), .v (.int .i64 (eN m k 2)), .v (.int .i64 (eN m k 3)), .v (.int .i64 (eN m k 4)), .v (.int .i64 (eN m k 5)), .v (.int .i64 (eN m k 6))]
set_option maxHeartbeats 3200000 in
set_option maxRecDepth 10000 in
theorem law (ts : List Int) : FC Try.prog 4 [.o (.c (.s 0 0 ts.length 1))] [diceL ts] (boo true) [diceL ts] := by
  refine FC.one (FC.rj mix Try.func4 ?_)
  refine FC.u (light_fc ts) [0] ?_
  refine bselNot (bsel_intro (fun h => ?_) (fun h => ?_))
  rotate_left
  · refine FC.u awake_fc [] ?_
    exact ⟨(), trivial, .id rfl ⟨.inl rfl, trivial⟩⟩
  have hl : ts.length ≤ 400 := of_decide_eq_true h
  refine FC.u (roll_fc ts) [0] ?_
  refine FC.x (shape_fc ts 0 hl) [1, 0] (fun s hs => ?_)
  refine FC.x (seens_fc ts s.k s.p 14 hl hs (Nat.le_refl _)) [1, 0] (fun y hy => ?_)
  obtain ⟨l, k⟩ := y
  replace hy : l.length ≤ 14 := hy
  repeat (first | refine And.intro (by kernel_rfl) ?_ | refine And.intro (by decide) ?_)
  refine ALoop.go (X := Nat) (fun i => i ≤ l.length) (fun i => l.length - i) [2, 3, 4, 19, 20] [0, 1] (fun i => [(21, int .i64 (i : Int))]) (fun i => [(2, ⟨snK (chg l i), true⟩)]) 0 (Nat.zero_le _) ⟨rfl, trivial⟩ ⟨.inl rfl, trivial⟩ ?_
  rintro i hi
  have hcl := chg_len l hi
  dsimp only [headF, headM]
  refine bselD (fun h => ?_) (fun h => ?_)
  · have h' : i < l.length := by omega
    have wi : IntKind.i64.wrap ((i : Int) + 1) = ((i + 1 : Nat) : Int) := wrap64_in (by omega) (by omega)
    refine And.intro ⟨by omega, h⟩ ?_
    refine And.intro (by show 0 + i < (chg l i).length; omega) ?_
    repeat (first | refine And.intro (by kernel_rfl) ?_ | refine And.intro (by decide) ?_)
    exact ⟨i + 1, ⟨h', by show l.length - (i + 1) < l.length - i; omega⟩, .id ⟨congrArg (int .i64) wi, trivial⟩ rfl ⟨leB.rows (by rw [chg_len l h', hcl]; exact Nat.le_refl _) (fun q hq => chg_step l h' (by rw [chg_len l h'] at hq; exact hq)) id, trivial⟩ rfl⟩
  · obtain rfl : i = l.length := by omega
    have hml : (l.map stC).length = l.length := List.length_map ..
    have hsame : ∀ k, cn (plL k) (l.map stC) = cn (keyL k) (l.map stC) := fun k => one_chip k l
    rw [chg_all]
    generalize hm : l.map stC = m at *
    rw [← hml]
    have hm14 : m.length ≤ 1000 := by omega
    refine FC.x (spread_fc m hm14) [2] (fun r hr => ?_)
    repeat (first | refine And.intro (by kernel_rfl) ?_ | refine And.intro (by decide) ?_)
    refine ALoop.go (X := Nat) (fun k => 1 ≤ k ∧ k ≤ 7) (fun k => 7 - k) [3, 4, 6, 7] [0, 1, 2, 3] (fun k => [(8, int .i64 (k : Int))]) (fun k => [(4, ⟨eB m k, true⟩)]) 1 ⟨Nat.le_refl _, by omega⟩ ⟨rfl, trivial⟩ ⟨.inl rfl, trivial⟩ ?_
    rintro k ⟨hk1, hk7⟩
    dsimp only [headF, headM]
    refine bselD (fun h => ?_) (fun h => ?_)
    · rcases (show k = 1 ∨ k = 2 ∨ k = 3 ∨ k = 4 ∨ k = 5 ∨ k = 6 by omega) with rfl | rfl | rfl | rfl | rfl | rfl <;>
      · refine FC.x (groups_fc _ m hm14) [2] (fun gs hgs => ?_)
        refine And.intro ⟨by decide, by decide⟩ ?_
        repeat (first | refine And.intro (by kernel_rfl) ?_ | refine And.intro (by decide) ?_)
        exact ⟨_, ⟨⟨by decide, by decide⟩, by decide⟩, .id ⟨rfl, trivial⟩ rfl ⟨.inl (by rw [hgs]; rfl), trivial⟩ rfl⟩
    · obtain rfl : k = 7 := by omega
      have en : ∀ q : Nat, q < 7 → eN m 7 q = ((gk (q : Int) m).length : Int) := fun q hq => if_pos hq
      have g : ∀ k : Int, whB k = true → (gk k m).length = cn (plL k) m := fun k hk => by rw [gk_cn hk, hsame]
      have f6 : (r.c6 : Int) = eN m 7 6 := by rw [en 6 (by decide), g _ rfl, hr]; rfl
      have f5 : (r.c5 : Int) = eN m 7 5 := by rw [en 5 (by decide), g _ rfl, hr]; rfl
      have fh : (r.h5 : Int) = r.c5 := by rw [hr]; show ((cn (keyL 5) m : Nat) : Int) = ((cn (plL 5) m : Nat) : Int); rw [hsame]
      have f4 : (r.c4 : Int) = eN m 7 4 := by rw [en 4 (by decide), g _ rfl, hr]; rfl
      have f2 : (r.c2 : Int) = eN m 7 2 := by rw [en 2 (by decide), g _ rfl, hr]; rfl
      have f3 : (r.c3 : Int) = eN m 7 3 := by rw [en 3 (by decide), g _ rfl, hr]; rfl
      have f1 : (r.c1 : Int) = eN m 7 1 := by rw [en 1 (by decide), g _ rfl, hr]; rfl
      repeat (first | refine And.intro (by kernel_rfl) ?_ | refine And.intro (by decide) ?_)
      refine bselE (fun _ => ?_) (fun c => absurd f6 c)
      repeat (first | refine And.intro (by kernel_rfl) ?_ | refine And.intro (by decide) ?_)
      refine bselE (fun _ => ?_) (fun c => absurd f5 c)
      refine bselE (fun _ => ?_) (fun c => absurd fh c)
      repeat (first | refine And.intro (by kernel_rfl) ?_ | refine And.intro (by decide) ?_)
      refine bselE (fun _ => ?_) (fun c => absurd f4 c)
      repeat (first | refine And.intro (by kernel_rfl) ?_ | refine And.intro (by decide) ?_)
      refine bselE (fun _ => ?_) (fun c => absurd f2 c)
      repeat (first | refine And.intro (by kernel_rfl) ?_ | refine And.intro (by decide) ?_)
      refine bselE (fun _ => ?_) (fun c => absurd f3 c)
      repeat (first | refine And.intro (by kernel_rfl) ?_ | refine And.intro (by decide) ?_)
      refine bselE (fun _ => ?_) (fun c => absurd f1 c)
      refine FC.u awake_fc [] ?_
      repeat (first | refine And.intro (by kernel_rfl) ?_ | refine And.intro (by decide) ?_)
      exact ⟨(), trivial, .id rfl ⟨.inl rfl, trivial⟩⟩
end Go.Sx.T1.Counts
namespace Go.Sx.T1.More
open Go.Proofs Go.Sx.T1
/-! with one more sighting -/
theorem cn_more {α : Type} (κ : α → Ky) (xs : List α) (x : α) : cn κ xs ≤ cn κ (xs ++ [x]) ∧ cn κ (xs ++ [x]) ≤ cn κ xs + 1 := by
  rw [cn_snoc]
  split <;> omega
theorem cn_pos {α : Type} (κ : α → Ky) {xs : List α} (h : xs ≠ []) : 1 ≤ cn κ xs := by
  cases xs with
  | nil => exact absurd rfl h
  | cons x r =>
    have : κ x ∈ dk ((x :: r).map κ) := (mem_dk _ _).2 (by simp)
    unfold cn
    exact List.length_pos_of_mem this
/-- a coarser key has no more values -/
theorem cn_coarse {α : Type} {κ κ' : α → Ky} (h : ∀ x y, κ x = κ y → κ' x = κ' y) (xs : List α) : cn κ' xs ≤ cn κ xs := by
  revert xs
  refine snoc_ind (Nat.le_refl _) fun xs x ih => ?_
  rw [cn_snoc, cn_snoc]
  by_cases hm : κ x ∈ xs.map κ
  · have : κ' x ∈ xs.map κ' := by
      obtain ⟨y, hy, e⟩ := List.mem_map.1 hm
      exact List.mem_map.2 ⟨y, hy, h y x e⟩
    rw [if_pos hm, if_pos this]; omega
  · rw [if_neg hm]
    split <;> omega
theorem gk_more {k : Int} (h : whB k = true) (xs : List Sn) (x : Sn) : (gk k xs).length ≤ (gk k (xs ++ [x])).length := by
  rw [Counts.gk_cn h, Counts.gk_cn h]
  exact (cn_more _ _ _).1
theorem kindB {q : Nat} (h1 : 1 ≤ q) (h6 : q ≤ 6) : whB (q : Int) = true := by simp only [whB, Bool.and_eq_true, decide_eq_true_eq]; omega
theorem gk_one {k : Int} (h : whB k = true) {xs : List Sn} (hx : xs ≠ []) : 1 ≤ (gk k xs).length := by
  rw [Counts.gk_cn h]; exact cn_pos _ hx
/-- what is common becomes no more special -/
theorem cm_more {xs : List Sn} {x : Sn} {a b : Nat} (hx : xs ≠ []) (ha : CmOk xs a) (hb : CmOk (xs ++ [x]) b) : b = 0 ∨ (a ≠ 0 ∧ a ≤ b) := by
  rcases hb with ⟨h, _⟩ | ⟨h1, h2, h3, _⟩
  · exact .inl h
  · have hb1 : (gk b xs).length = 1 := by
      have l1 := gk_more (kindB h1 h2) xs x
      have l2 := gk_one (kindB h1 h2) hx
      omega
    rcases ha with ⟨_, g⟩ | ⟨g1, g2, g3, g4⟩
    · exact absurd hb1 (g b h1 h2)
    · refine .inr ⟨by omega, ?_⟩
      rcases Nat.lt_or_ge b a with h | h
      · exact absurd hb1 (g4 b h1 h)
      · exact h
theorem cm_nil {r : Nat} (h : CmOk [] r) : r = 0 := by
  refine h.eq (.inl ⟨rfl, fun q h1 h2 => ?_⟩)
  rw [Counts.gk_cn (kindB h1 h2)]
  exact Nat.zero_ne_one
/-- the chain of kinds -/
theorem pl_chain (k k' : Int) (h : ∀ p q : S6, (whP k p).a = (whP k q).a ∧ (whP k p).b = (whP k q).b ∧ (whP k p).c = (whP k q).c ∧ (whP k p).d = (whP k q).d ∧ (whP k p).e = (whP k q).e ∧ (whP k p).f = (whP k q).f →
    (whP k' p).a = (whP k' q).a ∧ (whP k' p).b = (whP k' q).b ∧ (whP k' p).c = (whP k' q).c ∧ (whP k' p).d = (whP k' q).d ∧ (whP k' p).e = (whP k' q).e ∧ (whP k' p).f = (whP k' q).f) (xs : List Sn) : cn (plL k') xs ≤ cn (plL k) xs := by
  refine cn_coarse (fun x y e => ?_) xs
  have := h x.p y.p (by simpa [plL] using e)
  simpa [plL] using this
theorem ch65 (xs : List Sn) : cn (plL 6) xs ≤ cn (plL 5) xs := pl_chain 5 6 (fun p q h => by simp [whP] at h ⊢; simp_all) xs
theorem ch54 (xs : List Sn) : cn (plL 5) xs ≤ cn (plL 4) xs := pl_chain 4 5 (fun p q h => by simp [whP] at h ⊢; simp_all) xs
theorem ch42 (xs : List Sn) : cn (plL 4) xs ≤ cn (plL 2) xs := pl_chain 2 4 (fun p q h => by simp [whP] at h ⊢; simp_all) xs
theorem ch43 (xs : List Sn) : cn (plL 4) xs ≤ cn (plL 3) xs := pl_chain 3 4 (fun p q h => by simp [whP] at h ⊢; simp_all) xs
theorem ch21 (xs : List Sn) : cn (plL 2) xs ≤ cn (plL 1) xs := pl_chain 1 2 (fun p q h => by simp [whP] at h ⊢; simp_all) xs
theorem ch31 (xs : List Sn) : cn (plL 3) xs ≤ cn (plL 1) xs := pl_chain 1 3 (fun p q h => by simp [whP] at h ⊢; simp_all) xs
theorem common_n (xs : List Sn) {n : Nat} (h : n = xs.length) (hl : xs.length ≤ 1000) : ∃ r : Nat, FC Try.prog 16 [.o (.c (.s 0 0 n 8))] [snB xs false] (int .i64 (r : Int)) [snB xs false] ∧ CmOk xs r := by
  subst h; exact common_fc xs hl
theorem spread_n (xs : List Sn) {n : Nat} (h : n = xs.length) (hl : xs.length ≤ 1000) : ∃ r : Spr, FC Try.prog 15 [.o (.c (.s 0 0 n 8))] [snB xs false] (.o (.a (spC r))) [snB xs false] ∧ r = sprF xs := by
  subst h; exact spread_fc xs hl
/-- the block of all sightings, with the one that is new -/
theorem mB (l : List Sn) (y : Sn) {f : Nat → List C} {n : Nat} {g : Nat → List C} {w : Bool} (h1 : ∀ i, i < l.length → f i = snC (l.getD i sn0)) (h2 : f (0 + l.length) = snC y) (hn : n = (l ++ [y]).length := by simp) (hg : ∀ i, g i = snC ((l ++ [y]).getD i sn0) := by exact fun _ => rfl) : leB (some ⟨.rows 8 (0 + l.length + 1) f, w⟩) ⟨.rows 8 n g, false⟩ := by
  subst hn
  refine leB.rows (by simp) (fun i hi => ?_) (fun h => by cases h)
  rw [List.length_append, List.length_singleton] at hi
  rw [hg]
  by_cases h : i < l.length
  · rw [h1 i h]
    simp [List.getD, List.getElem?_append_left h]
  · obtain rfl : i = l.length := by omega
    rw [Nat.zero_add] at h2
    rw [h2]
    simp [List.getD]
theorem sprF_nil : sprF [] = ⟨0, 0, 0, 0, 0, 0, 0⟩ := rfl
theorem seven {P : Nat → Prop} (h0 : P 0) (h1 : P 1) (h2 : P 2) (h3 : P 3) (h4 : P 4) (h5 : P 5) (h6 : P 6) : ∀ i, i < 7 → P i := fun i hi => by
  rcases (show i = 0 ∨ i = 1 ∨ i = 2 ∨ i = 3 ∨ i = 4 ∨ i = 5 ∨ i = 6 by omega) with rfl | rfl | rfl | rfl | rfl | rfl | rfl
  · exact h0
  · exact h1
  · exact h2
  · exact h3
  · exact h4
  · exact h5
  · exact h6
def prX (r : Spr) (i : Nat) : Nat := [r.c6, r.c5, r.h5, r.c4, r.c2, r.c3, r.c1].getD i 0
def prC (x y : Int) : List C := [.v (.int .i64 x), .v (.int .i64 y)]
theorem wrap1 (n : Nat) (h : n ≤ 1000) : IntKind.i64.wrap ((n : Int) + 1) = (n : Int) + 1 := wrap64_in (by omega) (by omega)
set_option maxHeartbeats 3200000 in
set_option maxRecDepth 10000 in
theorem law (ts : List Int) : FC Try.prog 5 [.o (.c (.s 0 0 ts.length 1))] [diceL ts] (boo true) [diceL ts] := by
  refine FC.one (FC.rj mix Try.func5 ?_)
  refine FC.u (light_fc ts) [0] ?_
  refine bselNot (bsel_intro (fun h => ?_) (fun h => ?_))
  rotate_left
  · refine FC.u awake_fc [] ?_
    exact ⟨(), trivial, .id rfl ⟨.inl rfl, trivial⟩⟩
  have hl : ts.length ≤ 400 := of_decide_eq_true h
  refine FC.u (roll_fc ts) [0] ?_
  refine FC.x (shape_fc ts 0 hl) [1, 0] (fun s hs => ?_)
  repeat (first | refine And.intro (by kernel_rfl) ?_ | refine And.intro (by decide) ?_)
  refine FC.x (seens_fc ts s.k s.p 10 hl hs (by omega)) [1, 0] (fun y hy => ?_)
  obtain ⟨l, k⟩ := y
  replace hy : l.length ≤ 10 := hy
  refine bselE (fun h0 => ?_) (fun h0 => ?_)
  · obtain rfl : l = [] := List.eq_nil_of_length_eq_zero (by have h1 : (l.length : Int) = 0 := h0; omega)
    refine acall.nilAt 0 0 8 (snK []) (FC.x (common_fc [] (by decide)) [4] (fun r hr => ?_))
    obtain rfl := cm_nil hr
    repeat (first | refine And.intro (by kernel_rfl) ?_ | refine And.intro (by decide) ?_)
    refine acall.nilAt 0 0 8 (snK []) (FC.x (spread_fc [] (by decide)) [5] (fun r hr => ?_))
    rw [sprF_nil] at hr
    subst hr
    repeat (first | refine And.intro (by kernel_rfl) ?_ | refine And.intro (by decide) ?_)
    refine FC.u awake_fc [] ?_
    repeat (first | refine And.intro (by kernel_rfl) ?_ | refine And.intro (by decide) ?_)
    exact ⟨(), trivial, .id rfl ⟨.inl rfl, trivial⟩⟩
  have hne : l ≠ [] := fun e => by subst e; exact h0 rfl
  have hpos : 0 < l.length := List.length_pos_iff.2 hne
  repeat (first | refine And.intro (by kernel_rfl) ?_ | refine And.intro (by decide) ?_)
  refine And.intro ⟨by show 0 + l.length ≤ l.length; omega, fun _ _ => rfl⟩ ?_
  refine And.intro (by show 0 + l.length ≤ 4294967296; omega) ?_
  refine And.intro ⟨by omega, by show (0 : Int) < (l.length : Int); omega⟩ ?_
  refine And.intro (by show 0 + 0 < l.length; omega) ?_
  refine FC.x (seen_fc ts k s.p (l.getD (0 + 0) sn0) hl hs) [1, 0] (fun z _ => ?_)
  refine And.intro ⟨by show 0 + (0 + l.length) ≤ l.length; omega, fun _ _ => rfl⟩ ?_
  refine And.intro ⟨Nat.le_of_ble_eq_true rfl, fun i hi => (by obtain rfl : i = 0 := Nat.lt_one_iff.1 hi; rfl)⟩ ?_
  refine And.intro (by show (0 + l.length) + 1 ≤ 4294967296; omega) ?_
  repeat (first | refine And.intro (by kernel_rfl) ?_ | refine And.intro (by decide) ?_)
  refine FC.x (common_n l rfl (by omega)) [3] (fun a ha => ?_)
  have hml : 0 + l.length + 1 = (l ++ [z.x]).length := by simp
  refine FC.x (common_n (l ++ [z.x]) hml (by simp; omega)) [6] (fun b hb => ?_) (hrd := ⟨.inr (.inr (mB l z.x (fun i hi => (if_pos (by show i < 0 + l.length; omega)).trans (congrArg (fun q => snC (l.getD q sn0)) (show 0 + (0 + i) = i by omega))) ((if_neg (Nat.lt_irrefl _)).trans (by rw [Nat.sub_self]; rfl)))), trivial⟩)
  have hab := cm_more hne ha hb
  have b7 : a ≤ 6 ∧ b ≤ 6 := by
    rcases ha with ⟨h1, _⟩ | ⟨_, h1, _⟩ <;> rcases hb with ⟨h2, _⟩ | ⟨_, h2, _⟩ <;> omega
  repeat (first | refine And.intro (by kernel_rfl) ?_ | refine And.intro (by decide) ?_)
  refine FC.x (spread_n l rfl (by omega)) [3] (fun r hr => ?_)
  refine FC.x (spread_n (l ++ [z.x]) hml (by simp; omega)) [6] (fun r' hr' => ?_) (hrd := ⟨.inr (.inr (mB l z.x (fun i hi => (if_pos (by show i < 0 + l.length; omega)).trans (congrArg (fun q => snC (l.getD q sn0)) (show 0 + (0 + i) = i by omega))) ((if_neg (Nat.lt_irrefl _)).trans (by rw [Nat.sub_self]; rfl)))), trivial⟩)
  have bd : ∀ {κ : Sn → Ky}, cn κ l ≤ cn κ (l ++ [z.x]) ∧ cn κ (l ++ [z.x]) ≤ cn κ l + 1 ∧ 1 ≤ cn κ l ∧ cn κ l ≤ 1000 := fun {κ} => ⟨(cn_more κ l z.x).1, (cn_more κ l z.x).2, cn_pos κ hne, by have := cn_le κ l; omega⟩
  have p6 : r.c6 ≤ r'.c6 ∧ r'.c6 ≤ r.c6 + 1 ∧ 1 ≤ r.c6 ∧ r.c6 ≤ 1000 := by rw [hr, hr']; exact bd
  have p5 : r.c5 ≤ r'.c5 ∧ r'.c5 ≤ r.c5 + 1 ∧ 1 ≤ r.c5 ∧ r.c5 ≤ 1000 := by rw [hr, hr']; exact bd
  have ph : r.h5 ≤ r'.h5 ∧ r'.h5 ≤ r.h5 + 1 ∧ 1 ≤ r.h5 ∧ r.h5 ≤ 1000 := by rw [hr, hr']; exact bd
  have p4 : r.c4 ≤ r'.c4 ∧ r'.c4 ≤ r.c4 + 1 ∧ 1 ≤ r.c4 ∧ r.c4 ≤ 1000 := by rw [hr, hr']; exact bd
  have p2 : r.c2 ≤ r'.c2 ∧ r'.c2 ≤ r.c2 + 1 ∧ 1 ≤ r.c2 ∧ r.c2 ≤ 1000 := by rw [hr, hr']; exact bd
  have p3 : r.c3 ≤ r'.c3 ∧ r'.c3 ≤ r.c3 + 1 ∧ 1 ≤ r.c3 ∧ r.c3 ≤ 1000 := by rw [hr, hr']; exact bd
  have p1 : r.c1 ≤ r'.c1 ∧ r'.c1 ≤ r.c1 + 1 ∧ 1 ≤ r.c1 ∧ r.c1 ≤ 1000 := by rw [hr, hr']; exact bd
  have q65 : r.c6 ≤ r.c5 := by rw [hr]; exact ch65 l
  have q54 : r.c5 ≤ r.c4 := by rw [hr]; exact ch54 l
  have q42 : r.c4 ≤ r.c2 := by rw [hr]; exact ch42 l
  have q43 : r.c4 ≤ r.c3 := by rw [hr]; exact ch43 l
  have q21 : r.c2 ≤ r.c1 := by rw [hr]; exact ch21 l
  have q31 : r.c3 ≤ r.c1 := by rw [hr]; exact ch31 l
  clear hr hr' bd
  have pX : ∀ i, i < 7 → prX r i ≤ prX r' i ∧ prX r' i ≤ prX r i + 1 ∧ 1 ≤ prX r i ∧ prX r i ≤ 1000 := seven p6 p5 ph p4 p2 p3 p1
  repeat (first | refine And.intro (by kernel_rfl) ?_ | refine And.intro (by decide) ?_)
  refine ALoop.goN (X := Nat) (fun i => i ≤ 7) (fun i => 7 - i) [2, 3, 7, 8, 9, 10, 90, 91] [0, 7, 8] (fun i => [(92, int .i64 (i : Int))]) (fun _ => [(9, ⟨.rows 2 7 (fun i => prC (prX r i : Nat) (prX r' i : Nat)), true⟩)]) 0 10 (Nat.zero_le _) (.id ⟨rfl, trivial⟩ rfl ⟨leB.rows (Nat.le_refl _) (seven rfl rfl rfl rfl rfl rfl rfl) id, trivial⟩ rfl) ?_
  rintro i hi
  dsimp only [headF, headM]
  refine bselD (fun h => ?_) (fun h => ?_)
  · have wi : IntKind.i64.wrap ((i : Int) + 1) = ((i + 1 : Nat) : Int) := wrap64_in (by omega) (by omega)
    have hX := pX i (by omega)
    have hX0 : 0 + i = i := Nat.zero_add i
    repeat refine AJoin.plain ?_
    refine And.intro ⟨by omega, h⟩ ?_
    refine And.intro (by show 0 + i < 7; omega) ?_
    repeat (first | refine And.intro (by kernel_rfl) ?_ | refine And.intro (by decide) ?_)
    refine bselD (fun c => ?_) (fun _ => ?_)
    · exfalso
      have c' : ((prX r' (0 + i) : Nat) : Int) < ((prX r (0 + i) : Nat) : Int) := c
      rw [hX0] at c'; omega
    repeat (first | refine And.intro (by kernel_rfl) ?_ | refine And.intro (by decide) ?_)
    refine bselD (fun c => ?_) (fun _ => ?_)
    · exfalso
      have c' : ((prX r' (0 + i) : Nat) : Int) > IntKind.i64.wrap (((prX r (0 + i) : Nat) : Int) + 1) := c
      rw [hX0, wrap1 _ hX.2.2.2] at c'; omega
    repeat (first | refine And.intro (by kernel_rfl) ?_ | refine And.intro (by decide) ?_)
    refine bselD (fun c => ?_) (fun _ => ?_)
    · exfalso
      have c' : ((prX r (0 + i) : Nat) : Int) < 1 := c
      rw [hX0] at c'; omega
    repeat (first | refine And.intro (by kernel_rfl) ?_ | refine And.intro (by decide) ?_)
    exact ⟨i + 1, ⟨by omega, by show 7 - (i + 1) < 7 - i; omega⟩, .id ⟨congrArg (int .i64) wi, trivial⟩ rfl ⟨.inl rfl, trivial⟩ rfl⟩
  · obtain rfl : i = 7 := by omega
    repeat (first | refine And.intro (by kernel_rfl) ?_ | refine And.intro (by decide) ?_)
    refine bselE (fun c0 => ?_) (fun c0 => ?_)
    · repeat (first | refine And.intro (by kernel_rfl) ?_ | refine And.intro (by decide) ?_)
      refine bselD (fun _ => ?_) (fun c => absurd (show (r.c6 : Int) ≤ r.c5 by omega) c)
      repeat (first | refine And.intro (by kernel_rfl) ?_ | refine And.intro (by decide) ?_)
      refine bselD (fun _ => ?_) (fun c => absurd (show (r.c5 : Int) ≤ r.c4 by omega) c)
      repeat (first | refine And.intro (by kernel_rfl) ?_ | refine And.intro (by decide) ?_)
      refine bselD (fun _ => ?_) (fun c => absurd (show (r.c4 : Int) ≤ r.c2 by omega) c)
      repeat (first | refine And.intro (by kernel_rfl) ?_ | refine And.intro (by decide) ?_)
      refine bselD (fun _ => ?_) (fun c => absurd (show (r.c2 : Int) ≤ r.c1 by omega) c)
      repeat (first | refine And.intro (by kernel_rfl) ?_ | refine And.intro (by decide) ?_)
      refine bselD (fun _ => ?_) (fun c => absurd (show (r.c4 : Int) ≤ r.c3 by omega) c)
      repeat (first | refine And.intro (by kernel_rfl) ?_ | refine And.intro (by decide) ?_)
      refine bselD (fun _ => ?_) (fun c => absurd (show (r.c3 : Int) ≤ r.c1 by omega) c)
      refine FC.u awake_fc [] ?_
      repeat (first | refine And.intro (by kernel_rfl) ?_ | refine And.intro (by decide) ?_)
      exact ⟨(), trivial, .id rfl ⟨.inl rfl, trivial⟩⟩
    · replace c0 : ¬ (b : Int) = 0 := c0
      refine bselN (fun c1 => ?_) (fun c1 => ?_)
      · refine bselD (fun _ => ?_) (fun c => absurd (show (a : Int) ≤ b by omega) c)
        repeat (first | refine And.intro (by kernel_rfl) ?_ | refine And.intro (by decide) ?_)
        refine bselD (fun _ => ?_) (fun c => absurd (show (r.c6 : Int) ≤ r.c5 by omega) c)
        repeat (first | refine And.intro (by kernel_rfl) ?_ | refine And.intro (by decide) ?_)
        refine bselD (fun _ => ?_) (fun c => absurd (show (r.c5 : Int) ≤ r.c4 by omega) c)
        repeat (first | refine And.intro (by kernel_rfl) ?_ | refine And.intro (by decide) ?_)
        refine bselD (fun _ => ?_) (fun c => absurd (show (r.c4 : Int) ≤ r.c2 by omega) c)
        repeat (first | refine And.intro (by kernel_rfl) ?_ | refine And.intro (by decide) ?_)
        refine bselD (fun _ => ?_) (fun c => absurd (show (r.c2 : Int) ≤ r.c1 by omega) c)
        repeat (first | refine And.intro (by kernel_rfl) ?_ | refine And.intro (by decide) ?_)
        refine bselD (fun _ => ?_) (fun c => absurd (show (r.c4 : Int) ≤ r.c3 by omega) c)
        repeat (first | refine And.intro (by kernel_rfl) ?_ | refine And.intro (by decide) ?_)
        refine bselD (fun _ => ?_) (fun c => absurd (show (r.c3 : Int) ≤ r.c1 by omega) c)
        refine FC.u awake_fc [] ?_
        repeat (first | refine And.intro (by kernel_rfl) ?_ | refine And.intro (by decide) ?_)
        exact ⟨(), trivial, .id rfl ⟨.inl rfl, trivial⟩⟩
      · exfalso
        replace c1 : (a : Int) = 0 := c1
        omega
end Go.Sx.T1.More
namespace Go.Sx.T1.Nested
open Go.Proofs Go.Sx.T1
/-! groups divide all sightings -/
def pos : List Ky → Ky → Nat
  | [], _ => 0
  | a :: r, k => if a = k then 0 else pos r k + 1
theorem pos_get : ∀ {l : List Ky} {k : Ky}, k ∈ l → ∃ h : pos l k < l.length, l[pos l k] = k
  | [], k, h => by cases h
  | a :: r, k, h => by
    unfold pos
    by_cases e : a = k
    · refine ⟨by rw [if_pos e]; simp, ?_⟩
      simp only [if_pos e, List.getElem_cons_zero]; exact e
    · rcases List.mem_cons.1 h with h | h
      · exact absurd h.symm e
      · obtain ⟨h1, h2⟩ := pos_get h
        refine ⟨by rw [if_neg e]; simpa using h1, ?_⟩
        simp only [if_neg e, List.getElem_cons_succ]; exact h2
/-- the number of a sighting's group -/
def gi (K : List Ky) (p : Nat) : Nat := pos (dk K) (K.getD p [])
theorem gi_get {K : List Ky} {p : Nat} (hp : p < K.length) : ∃ h : gi K p < (dk K).length, (dk K)[gi K p] = K.getD p [] :=
  pos_get ((mem_dk _ _).2 (by simp [List.getD, hp]))
theorem gi_same {K : List Ky} {p q : Nat} (h : K.getD p [] = K.getD q []) : gi K p = gi K q := by unfold gi; rw [h]
/-- a group's members -/
theorem gr_at {K : List Ky} {q : Nat} (hq : q < (gr K).length) {v : Int} (h : v ∈ (gr K).getD q []) : ∃ p : Nat, v = p ∧ p < K.length ∧ gi K p = q ∧ K.getD p [] = (dk K)[q]'(by rw [← gr_len]; exact hq) := by
  have hq' : q < (dk K).length := by rw [← gr_len]; exact hq
  rw [gr_get K q hq'] at h
  obtain ⟨p, e, hp, hk⟩ := ix_mem h
  obtain ⟨h1, h2⟩ := gi_get hp
  exact ⟨p, e, hp, nodup_inj (dk_nodup K) h1 hq' (h2.trans hk), hk⟩
theorem gr_in {K : List Ky} {p : Nat} (hp : p < K.length) : (p : Int) ∈ (gr K).getD (gi K p) [] := by
  obtain ⟨h1, h2⟩ := gi_get hp
  rw [gr_get K _ h1]
  exact mem_ix hp h2.symm
theorem ix_nodup (ks : List Ky) (k : Ky) : (ix ks k).Nodup := by
  revert ks
  refine snoc_ind (by simp [ix]) fun ks x ih => ?_
  rw [ix_snoc, List.nodup_append]
  refine ⟨ih, ?_, fun a ha b hb => ?_⟩
  · split <;> simp
  · split at hb
    · rw [List.mem_singleton] at hb
      obtain ⟨p, e, hp, _⟩ := ix_mem ha
      subst hb
      omega
    · cases hb
theorem gr_nodup (K : List Ky) (q : Nat) : ((gr K).getD q []).Nodup := by
  by_cases h : q < (dk K).length
  · rw [gr_get K q h]; exact ix_nodup _ _
  · have : (gr K)[q]? = none := List.getElem?_eq_none (by rw [gr_len]; omega)
    simp [List.getD, this]
/-- how many there are in the first groups -/
def tot (gs : List (List Int)) : Nat := (gs.map List.length).sum
def ts2 (d : List Ky) (K : List Ky) : Nat := (d.map fun c => (ix K c).length).sum
theorem ts2_snoc (K : List Ky) (x : Ky) : ∀ {d : List Ky}, d.Nodup → ts2 d (K ++ [x]) = ts2 d K + (if x ∈ d then 1 else 0)
  | [], _ => rfl
  | c :: r, h => by
    have h' := List.nodup_cons.1 h
    have ih := ts2_snoc K x h'.2
    unfold ts2 at ih ⊢
    simp only [List.map_cons, List.sum_cons]
    rw [ih, ix_snoc, List.length_append]
    by_cases e : x = c
    · subst e
      rw [if_pos rfl, if_neg h'.1, if_pos (List.mem_cons_self ..)]
      simp only [List.length_singleton]; omega
    · rw [if_neg e]
      by_cases hm : x ∈ r
      · rw [if_pos hm, if_pos (List.mem_cons_of_mem _ hm)]
        simp only [List.length_nil]; omega
      · rw [if_neg hm, if_neg (fun h => by rcases List.mem_cons.1 h with h | h; exact e h; exact hm h)]
        simp only [List.length_nil]; omega
theorem tot_gr (K : List Ky) : tot (gr K) = K.length := by
  have e : ∀ K, tot (gr K) = ts2 (dk K) K := fun K => by unfold tot gr ts2; rw [List.map_map]; rfl
  rw [e]
  revert K
  refine snoc_ind rfl fun K x ih => ?_
  rw [ts2_snoc K x (dk_nodup _), List.length_append, List.length_singleton]
  by_cases h : x ∈ dk K
  · rw [dk_snoc, if_pos h, ih, if_pos h]
  · rw [dk_snoc, if_neg h, if_pos (by simp)]
    have : ts2 (dk K ++ [x]) K = ts2 (dk K) K := by
      unfold ts2
      rw [List.map_append, List.sum_append]
      simp [ix_nil (fun h' => h ((mem_dk _ _).2 h'))]
    rw [this, ih]
theorem tot_take {gs : List (List Int)} {j : Nat} (h : j < gs.length) : tot (gs.take (j + 1)) = tot (gs.take j) + (gs.getD j []).length := by
  rw [take_row h]
  unfold tot
  rw [List.map_append, List.sum_append]
  simp
theorem tot_le (gs : List (List Int)) (j : Nat) : tot (gs.take j) ≤ tot gs := by
  have : tot gs = tot (gs.take j) + tot (gs.drop j) := by
    conv => lhs; rw [← List.take_append_drop j gs]
    unfold tot
    rw [List.map_append, List.sum_append]
  omega
/-! the marks -/
/-- group j is being marked, of which t are -/
def mk (K : List Ky) (j t p : Nat) : Int := if gi K p < j ∨ (gi K p = j ∧ (p : Int) ∈ ((gr K).getD j []).take t) then (gi K p : Int) else -1
def Mk (K : List Ky) (j t : Nat) (part : List Int) : Prop := part.length = K.length ∧ ∀ p, p < K.length → part.getD p 0 = mk K j t p
theorem Mk.zero {K : List Ky} {part : List Int} (hl : part.length = K.length) (h : ∀ p, p < K.length → part.getD p 0 = -1) : Mk K 0 0 part := by
  refine ⟨hl, fun p hp => ?_⟩
  rw [h p hp, mk, if_neg (by simp)]
theorem Mk.next {K : List Ky} {j : Nat} {part : List Int} (h : Mk K j ((gr K).getD j []).length part) : Mk K (j + 1) 0 part := by
  refine ⟨h.1, fun p hp => ?_⟩
  rw [h.2 p hp, mk, mk]
  have e : (gi K p < j ∨ gi K p = j ∧ (p : Int) ∈ ((gr K).getD j []).take ((gr K).getD j []).length) ↔ (gi K p < j + 1 ∨ gi K p = j + 1 ∧ (p : Int) ∈ ((gr K).getD (j + 1) []).take 0) := by
    rw [List.take_length]
    constructor
    · rintro (h | ⟨h, _⟩)
      · exact .inl (by omega)
      · exact .inl (by omega)
    · rintro (h | ⟨_, h⟩)
      · rcases Nat.lt_or_ge (gi K p) j with h2 | h2
        · exact .inl h2
        · have e : gi K p = j := by omega
          exact .inr ⟨e, by rw [← e]; exact gr_in hp⟩
      · simp at h
  simp only [e]
theorem getD_mem {l : List Int} {t : Nat} (h : t < l.length) : l.getD t 0 ∈ l := by simp [List.getD, h]
theorem take_get {l : List Int} {t : Nat} (h : t < l.length) : l.take (t + 1) = l.take t ++ [l.getD t 0] := by
  rw [List.take_succ_eq_append_getElem h]
  simp [List.getD, h]
theorem Mk.set {K : List Ky} {j t : Nat} {part : List Int} (h : Mk K j t part) (hj : j < (gr K).length) (ht : t < ((gr K).getD j []).length) {p : Nat} (hp : ((gr K).getD j []).getD t 0 = p) : part.getD p 0 = -1 ∧ Mk K j (t + 1) (part.set p (j : Int)) ∧ p < K.length := by
  have hmem : (p : Int) ∈ (gr K).getD j [] := by rw [← hp]; exact getD_mem ht
  obtain ⟨p', e, hpl, hg, _⟩ := gr_at hj hmem
  obtain rfl : p' = p := by omega
  have hnd := gr_nodup K j
  have htk : ((gr K).getD j []).take (t + 1) = ((gr K).getD j []).take t ++ [(p' : Int)] := by
    rw [take_get ht, hp]
  have hno : (p' : Int) ∉ ((gr K).getD j []).take t := fun hm => by
    have h1 : (((gr K).getD j []).take (t + 1)).Nodup := hnd.sublist (List.take_sublist _ _)
    rw [htk, List.nodup_append] at h1
    exact h1.2.2 _ hm _ (by simp) rfl
  refine ⟨?_, ⟨by rw [List.length_set]; exact h.1, fun q hq => ?_⟩, hpl⟩
  · rw [h.2 p' hpl, mk, if_neg]
    rintro (h1 | ⟨_, h1⟩)
    · omega
    · exact hno h1
  · by_cases e : q = p'
    · subst e
      rw [mk, htk, if_pos (.inr ⟨hg, by simp⟩), hg]
      simp [List.getD, h.1, hq]
    · have : (part.set p' (j : Int)).getD q 0 = part.getD q 0 := by simp [List.getD, List.getElem?_set_ne (Ne.symm e)]
      rw [this, h.2 q hq, mk, mk, htk]
      have e2 : (q : Int) ∈ ((gr K).getD j []).take t ++ [(p' : Int)] ↔ (q : Int) ∈ ((gr K).getD j []).take t := by
        rw [List.mem_append, List.mem_singleton]
        exact ⟨fun h => h.elim id fun h => absurd h (by omega), .inl⟩
      simp only [e2]
theorem Mk.all {K : List Ky} {j : Nat} {part : List Int} (h : Mk K j 0 part) (hj : j = (gr K).length) {p : Nat} (hp : p < K.length) : part.getD p 0 = gi K p := by
  obtain ⟨h1, _⟩ := gi_get hp
  rw [h.2 p hp, mk, if_pos (.inl (by rw [hj, gr_len]; exact h1))]
/-! pairs of kinds -/
def pa (i : Nat) : Int := [1, 1, 2, 3, 4, 5].getD i 0
def pb (i : Nat) : Int := [2, 3, 4, 4, 5, 6].getD i 0
theorem six {P : Nat → Prop} (h0 : P 0) (h1 : P 1) (h2 : P 2) (h3 : P 3) (h4 : P 4) (h5 : P 5) : ∀ i, i < 6 → P i := fun i hi => by
  rcases (show i = 0 ∨ i = 1 ∨ i = 2 ∨ i = 3 ∨ i = 4 ∨ i = 5 by omega) with rfl | rfl | rfl | rfl | rfl | rfl
  · exact h0
  · exact h1
  · exact h2
  · exact h3
  · exact h4
  · exact h5
theorem coarser : ∀ i, i < 6 → ∀ x y : Sn, keyL (pa i) x = keyL (pa i) y → keyL (pb i) x = keyL (pb i) y := by
  refine six ?_ ?_ ?_ ?_ ?_ ?_ <;> (intro x y h; simp [pa, pb, keyL, whP] at h ⊢; simp_all)
theorem paB : ∀ i, i < 6 → whB (pa i) = true := six rfl rfl rfl rfl rfl rfl
theorem pbB : ∀ i, i < 6 → whB (pb i) = true := six rfl rfl rfl rfl rfl rfl
theorem kys_get (k : Int) (xs : List Sn) {p : Nat} (h : p < xs.length) : (kys k xs).getD p [] = keyL k (xs.getD p sn0) := by simp [kys, List.getD, h]
theorem kys_len (k : Int) (xs : List Sn) : (kys k xs).length = xs.length := by simp [kys]
structure PA where
  i : Nat
  l : List Int
structure PC where
  j : Nat
  n : Nat
set_option maxHeartbeats 100000000 in
set_option maxRecDepth 10000 in
theorem law (ts : List Int) : FC Try.prog 3 [.o (.c (.s 0 0 ts.length 1))] [diceL ts] (boo true) [diceL ts] := by
  refine FC.one (FC.rj mix Try.func3 ?_)
  refine FC.u (light_fc ts) [0] ?_
  refine bselNot (bsel_intro (fun h => ?_) (fun h => ?_))
  rotate_left
  · refine FC.u awake_fc [] ?_
    exact ⟨(), trivial, .id rfl ⟨.inl rfl, trivial⟩⟩
  have hl : ts.length ≤ 400 := of_decide_eq_true h
  refine FC.u (roll_fc ts) [0] ?_
  refine FC.x (shape_fc ts 0 hl) [1, 0] (fun s hs => ?_)
  refine FC.x (seens_fc ts s.k s.p 14 hl hs (Nat.le_refl _)) [1, 0] (fun y hy => ?_)
  obtain ⟨l, kk⟩ := y
  replace hy : l.length ≤ 14 := hy
  repeat (first | refine And.intro (by kernel_rfl) ?_ | refine And.intro (by decide) ?_)
  refine ALoop.goN (X := Nat) (fun i => i ≤ 6) (fun i => 6 - i) [3, 4, 34, 35] [0, 1] (fun i => [(36, int .i64 (i : Int))]) (fun _ => [(2, ⟨snK l, true⟩), (3, ⟨.rows 2 6 (fun i => More.prC (pa i) (pb i)), true⟩)]) 0 4 (Nat.zero_le _) (.id ⟨rfl, trivial⟩ rfl ⟨.inl rfl, leB.rows (Nat.le_refl _) (six rfl rfl rfl rfl rfl rfl) id, trivial⟩ rfl) ?_
  rintro i hi
  dsimp only [headF, headM]
  refine bselD (fun h => ?_) (fun h => ?_)
  rotate_left
  · repeat (first | refine And.intro (by kernel_rfl) ?_ | refine And.intro (by decide) ?_)
    refine FC.u awake_fc [] ?_
    repeat (first | refine And.intro (by kernel_rfl) ?_ | refine And.intro (by decide) ?_)
    exact ⟨(), trivial, .id rfl ⟨.inl rfl, trivial⟩⟩
  have h' : i < 6 := by omega
  have wi : IntKind.i64.wrap ((i : Int) + 1) = ((i + 1 : Nat) : Int) := wrap64_in (by omega) (by omega)
  have hA := paB i h'
  have hB := pbB i h'
  have hC := coarser i h'
  have z0 : 0 + i = i := Nat.zero_add i
  repeat refine AJoin.plain ?_
  refine And.intro ⟨by omega, h⟩ ?_
  refine And.intro (by show 0 + i < 6; omega) ?_
  refine And.intro ⟨by show (0 : Int) ≤ (l.length : Int); omega, rfl, by show (l.length : Int) ≤ 4294967296; omega⟩ ?_
  repeat (first | refine And.intro (by kernel_rfl) ?_ | refine And.intro (by decide) ?_)
  refine ALoop.goN (X := PA) (fun x => x.i ≤ l.length ∧ x.l.length = l.length ∧ ∀ q, q < x.i → x.l.getD q 0 = -1) (fun x => l.length - x.i) [3, 4, 6, 7, 34, 35, 36, 43, 44] [0, 1, 2, 3, 4] (fun x => [(45, int .i64 (x.i : Int))]) (fun x => [(5, ⟨.ints .i64 x.l, true⟩)]) ⟨0, List.replicate l.length 0⟩ 6 ⟨Nat.zero_le _, by simp, fun q hq => absurd hq (Nat.not_lt_zero _)⟩ (.id ⟨rfl, trivial⟩ rfl ⟨.inl rfl, trivial⟩ rfl) ?_
  rintro ⟨q, p0⟩ ⟨hq, hp0, hall⟩
  replace hq : q ≤ l.length := hq
  replace hp0 : p0.length = l.length := hp0
  dsimp only [headF, headM]
  refine bselD (fun hql => ?_) (fun hql => ?_)
  · have hq' : q < l.length := by omega
    have wq : IntKind.i64.wrap ((q : Int) + 1) = ((q + 1 : Nat) : Int) := wrap64_in (by omega) (by omega)
    refine And.intro ⟨by omega, hql⟩ ?_
    refine And.intro (by show 0 + q < p0.length; omega) ?_
    repeat (first | refine And.intro (by kernel_rfl) ?_ | refine And.intro (by decide) ?_)
    refine ⟨⟨q + 1, p0.set (0 + q) (-1)⟩, ⟨⟨hq', by show (p0.set (0 + q) (-1)).length = _; rw [List.length_set]; exact hp0, fun u hu => ?_⟩, by show l.length - (q + 1) < l.length - q; omega⟩, .id ⟨congrArg (int .i64) wq, trivial⟩ rfl ⟨.inl rfl, trivial⟩ rfl⟩
    show (p0.set (0 + q) (-1)).getD u 0 = -1
    rw [Nat.zero_add]
    by_cases e : u = q
    · subst e; simp [List.getD, hp0, hq']
    · have : (p0.set q (-1)).getD u 0 = p0.getD u 0 := by simp [List.getD, List.getElem?_set_ne (Ne.symm e)]
      rw [this]
      have hu' : u < q + 1 := hu
      exact hall u (by show u < q; omega)
  have hql2 : ¬ (q : Int) < (l.length : Int) := hql
  clear hql
  have hqe : q = l.length := by omega
  subst hqe
  have KB := kys_len (pb i) l
  have KA := kys_len (pa i) l
  have mk0 : Mk (kys (pb i) l) 0 0 p0 := Mk.zero (by rw [KB]; exact hp0) (fun p hp => hall p (by show p < l.length; omega))
  clear hall
  repeat (first | refine And.intro (by kernel_rfl) ?_ | refine And.intro (by decide) ?_)
  refine FC.x (groups_fc (pb (0 + i)) l (by omega)) [2] (fun G eG => ?_)
  rw [z0, gk, if_pos hB] at eG
  refine Exists.elim (⟨_, rfl⟩ : ∃ K, K = kys (pb i) l) (fun K hKB => ?_)
  rw [← hKB] at eG mk0 KB
  subst eG
  clear hp0 hq hql2
  have hGl : (gr K).length ≤ 14 := by rw [gr_len]; have := dk_len K; omega
  repeat (first | refine And.intro (by kernel_rfl) ?_ | refine And.intro (by decide) ?_)
  refine ALoop.goN (X := PA) (fun x => x.i ≤ (gr K).length ∧ Mk K x.i 0 x.l) (fun x => (gr K).length - x.i) [3, 4, 6, 7, 34, 35, 36, 55, 56] [0, 1, 2, 3, 4] (fun x => [(57, int .i64 (x.i : Int))]) (fun x => [(5, ⟨.ints .i64 x.l, true⟩), (6, ⟨.deep x.i (gr K) none, true⟩)]) ⟨0, p0⟩ 7 ⟨Nat.zero_le _, mk0⟩ (.id ⟨rfl, trivial⟩ rfl ⟨.inl rfl, .inl rfl, trivial⟩ rfl) ?_
  clear mk0
  rintro ⟨j, p1⟩ ⟨hj, mk1⟩
  replace hj : j ≤ (gr K).length := hj
  replace mk1 : Mk K j 0 p1 := mk1
  dsimp only [headF, headM]
  refine bselD (fun hjl => ?_) (fun hjl => ?_)
  · have hjl2 : (j : Int) < ((gr K).length : Int) := hjl
    clear hjl
    have hj' : j < (gr K).length := by omega
    have wj : IntKind.i64.wrap ((j : Int) + 1) = ((j + 1 : Nat) : Int) := wrap64_in (by omega) (by omega)
    have zj : 0 + j = j := Nat.zero_add j
    have hrow := gr_row K j
    refine And.intro ⟨by omega, hjl2⟩ ?_
    refine And.intro ⟨by show j ≤ 0 + j; omega, by show 0 + j < (gr K).length; omega⟩ ?_
    repeat (first | refine And.intro (by kernel_rfl) ?_ | refine And.intro (by decide) ?_)
    refine ALoop.goN (X := PA) (fun x => x.i ≤ ((gr K).getD (0 + j) []).length ∧ Mk K j x.i x.l) (fun x => ((gr K).getD (0 + j) []).length - x.i) [3, 4, 6, 7, 9, 34, 35, 36, 55, 56, 57, 62, 63] [0, 1, 2, 3, 4, 6, 7] (fun x => [(64, int .i64 (x.i : Int))]) (fun x => [(5, ⟨.ints .i64 x.l, true⟩)]) ⟨0, p1⟩ 8 ⟨Nat.zero_le _, mk1⟩ (.id ⟨rfl, trivial⟩ rfl ⟨.inl rfl, trivial⟩ rfl) ?_
    clear mk1
    rintro ⟨t, p2⟩ ⟨ht, mk2⟩
    replace ht : t ≤ ((gr K).getD (0 + j) []).length := ht
    replace mk2 : Mk K j t p2 := mk2
    dsimp only [headF, headM]
    refine bselD (fun htl => ?_) (fun htl => ?_)
    · have htl2 : (t : Int) < (((gr K).getD (0 + j) []).length : Int) := htl
      clear htl
      have ht' : t < ((gr K).getD (0 + j) []).length := by omega
      have wt : IntKind.i64.wrap ((t : Int) + 1) = ((t + 1 : Nat) : Int) := wrap64_in (by omega) (by rw [zj] at ht'; omega)
      have zt : 0 + t = t := Nat.zero_add t
      refine Exists.elim (gr_at hj' (getD_mem (l := (gr K).getD j []) (t := t) (by rw [← zj]; exact ht'))) (fun v hv => ?_)
      have ev := hv.1
      have mset := mk2.set hj' (by rw [← zj]; exact ht') ev
      have mv := mset.1
      have mk3 := mset.2.1
      have hvl := mset.2.2
      clear hv mset
      have eV : ((gr K).getD (0 + j) []).getD (0 + t) 0 = (v : Int) := by rw [zj, zt]; exact ev
      have eN : 0 + (((gr K).getD (0 + j) []).getD (0 + t) 0).toNat = v := by rw [eV]; omega
      have hp2 : p2.length = l.length := by rw [mk2.1, KB]
      have hvl2 : v < l.length := by omega
      repeat refine AJoin.plain ?_
      refine And.intro ⟨by omega, htl2⟩ ?_
      refine And.intro (by show 0 + t < ((gr K).getD (0 + j) []).length; omega) ?_
      repeat (first | refine And.intro (by kernel_rfl) ?_ | refine And.intro (by decide) ?_)
      have eVc : ∀ w : Int, ((gr K).getD (0 + j) []).getD (0 + t) 0 = w → w = (v : Int) := fun w hw => hw.symm.trans eV
      have pv : p2.getD (0 + (((gr K).getD (0 + j) []).getD (0 + t) 0).toNat) 0 = -1 := by rw [eN]; exact mv
      refine bselD (fun c => absurd (show ((gr K).getD (0 + j) []).getD (0 + t) 0 < 0 from c) (by rw [eV]; omega)) (fun _ => ?_)
      repeat (first | refine And.intro (by kernel_rfl) ?_ | refine And.intro (by decide) ?_)
      refine bselD (fun c => absurd (show ((gr K).getD (0 + j) []).getD (0 + t) 0 ≥ (l.length : Int) from c) (by rw [eV]; omega)) (fun _ => ?_)
      refine And.intro ⟨by show 0 ≤ ((gr K).getD (0 + j) []).getD (0 + t) 0; rw [eV]; omega, by show ((gr K).getD (0 + j) []).getD (0 + t) 0 < (l.length : Int); rw [eV]; omega⟩ ?_
      refine And.intro (by show 0 + (((gr K).getD (0 + j) []).getD (0 + t) 0).toNat < p2.length; rw [eN]; omega) ?_
      repeat (first | refine And.intro (by kernel_rfl) ?_ | refine And.intro (by decide) ?_)
      refine bselD (fun c => absurd (show p2.getD (0 + (((gr K).getD (0 + j) []).getD (0 + t) 0).toNat) 0 ≥ 0 from c) (by rw [pv]; decide)) (fun _ => ?_)
      refine And.intro ⟨by show 0 ≤ ((gr K).getD (0 + j) []).getD (0 + t) 0; rw [eV]; omega, by show ((gr K).getD (0 + j) []).getD (0 + t) 0 < (l.length : Int); rw [eV]; omega⟩ ?_
      refine And.intro (by show 0 + (((gr K).getD (0 + j) []).getD (0 + t) 0).toNat < p2.length; rw [eN]; omega) ?_
      repeat (first | refine And.intro (by kernel_rfl) ?_ | refine And.intro (by decide) ?_)
      exact ⟨⟨t + 1, p2.set (0 + (((gr K).getD (0 + j) []).getD (0 + t) 0).toNat) (j : Int)⟩, ⟨⟨ht', by show Mk K j (t + 1) (p2.set (0 + (((gr K).getD (0 + j) []).getD (0 + t) 0).toNat) (j : Int)); rw [eN]; exact mk3⟩, by show ((gr K).getD (0 + j) []).length - (t + 1) < ((gr K).getD (0 + j) []).length - t; omega⟩, .id ⟨congrArg (int .i64) wt, trivial⟩ rfl ⟨.inl rfl, trivial⟩ rfl⟩
    · have htl2 : ¬ (t : Int) < (((gr K).getD (0 + j) []).length : Int) := htl
      clear htl
      have hte : t = ((gr K).getD (0 + j) []).length := by omega
      subst hte
      rw [zj] at mk2
      have mk4 := mk2.next
      repeat (first | refine And.intro (by kernel_rfl) ?_ | refine And.intro (by decide) ?_)
      exact ⟨⟨j + 1, p2⟩, ⟨⟨hj', mk4⟩, by show (gr K).length - (j + 1) < (gr K).length - j; omega⟩, isAt.giv _ (MLe.fgt 6 (j + 1) rfl (by omega) (fun j' c e => by cases e; show 0 + j < j + 1; omega)) (.id ⟨congrArg (int .i64) wj, trivial⟩ rfl ⟨.inl rfl, .inl rfl, trivial⟩ rfl)⟩
  · have hjl2 : ¬ (j : Int) < ((gr K).length : Int) := hjl
    clear hjl
    have hje : j = (gr K).length := by omega
    have mkA : ∀ p, p < l.length → p1.getD p 0 = gi K p := fun p hp => mk1.all hje (by omega)
    have hp1 : p1.length = l.length := by rw [mk1.1, KB]
    repeat (first | refine And.intro (by kernel_rfl) ?_ | refine And.intro (by decide) ?_)
    refine FC.x (groups_fc (pa (0 + i)) l (by omega)) [2] (fun G eG => ?_)
    rw [z0, gk, if_pos hA] at eG
    clear mk1 hjl2 hje hj hGl
    refine Exists.elim (⟨_, rfl⟩ : ∃ A, A = kys (pa i) l) (fun A hKA => ?_)
    rw [← hKA] at eG KA
    subst eG
    have hAl : (gr A).length ≤ 14 := by rw [gr_len]; have := dk_len A; omega
    have htot := tot_gr A
    have hAp : ∀ p, p < l.length → A.getD p [] = keyL (pa i) (l.getD p sn0) := fun p hp => by rw [hKA]; exact kys_get _ _ hp
    have hKp : ∀ p, p < l.length → K.getD p [] = keyL (pb i) (l.getD p sn0) := fun p hp => by rw [hKB]; exact kys_get _ _ hp
    repeat (first | refine And.intro (by kernel_rfl) ?_ | refine And.intro (by decide) ?_)
    refine ALoop.goN (X := PC) (fun x => x.j ≤ (gr A).length ∧ x.n = tot ((gr A).take x.j)) (fun x => (gr A).length - x.j) [3, 4, 6, 7, 34, 35, 36, 92, 93] [0, 1, 2, 3, 4, 5] (fun x => [(13, int .i64 (x.n : Int)), (94, int .i64 (x.j : Int))]) (fun x => [(7, ⟨.deep x.j (gr A) none, true⟩)]) ⟨0, 0⟩ 8 ⟨Nat.zero_le _, rfl⟩ (.id ⟨rfl, rfl, trivial⟩ rfl ⟨.inl rfl, trivial⟩ rfl) ?_
    rintro ⟨j, n⟩ ⟨hj, hn⟩
    replace hj : j ≤ (gr A).length := hj
    replace hn : n = tot ((gr A).take j) := hn
    dsimp only [headF, headM]
    refine bselD (fun hjl => ?_) (fun hjl => ?_)
    · have hjl2 : (j : Int) < ((gr A).length : Int) := hjl
      clear hjl
      have hj' : j < (gr A).length := by omega
      have wj : IntKind.i64.wrap ((j : Int) + 1) = ((j + 1 : Nat) : Int) := wrap64_in (by omega) (by omega)
      have zj : 0 + j = j := Nat.zero_add j
      have hrow := gr_row A j
      have htk := tot_take hj'
      have htl := tot_le (gr A) (j + 1)
      refine And.intro ⟨by omega, hjl2⟩ ?_
      refine And.intro ⟨by show j ≤ 0 + j; omega, by show 0 + j < (gr A).length; omega⟩ ?_
      repeat (first | refine And.intro (by kernel_rfl) ?_ | refine And.intro (by decide) ?_)
      refine ALoop.goN (X := PC) (fun x => x.j ≤ ((gr A).getD (0 + j) []).length ∧ x.n = n + x.j) (fun x => ((gr A).getD (0 + j) []).length - x.j) [3, 4, 6, 7, 15, 34, 35, 36, 92, 93, 94, 98, 99] [0, 1, 2, 3, 4, 5, 7, 8] (fun x => [(13, int .i64 (x.n : Int)), (100, int .i64 (x.j : Int))]) (fun _ => []) ⟨0, n⟩ 9 ⟨Nat.zero_le _, rfl⟩ (.id ⟨rfl, rfl, trivial⟩ rfl trivial rfl) ?_
      rintro ⟨t, n2⟩ ⟨ht, hn2⟩
      replace ht : t ≤ ((gr A).getD (0 + j) []).length := ht
      replace hn2 : n2 = n + t := hn2
      dsimp only [headF, headM]
      refine bselD (fun htl => ?_) (fun htl => ?_)
      · have htl2 : (t : Int) < (((gr A).getD (0 + j) []).length : Int) := htl
        clear htl
        have ht' : t < ((gr A).getD (0 + j) []).length := by omega
        have htj : t < ((gr A).getD j []).length := by rw [← zj]; exact ht'
        have wt : IntKind.i64.wrap ((t : Int) + 1) = ((t + 1 : Nat) : Int) := wrap64_in (by omega) (by omega)
        have wn : IntKind.i64.wrap ((n2 : Int) + 1) = ((n2 + 1 : Nat) : Int) := wrap64_in (by omega) (by omega)
        have zt : 0 + t = t := Nat.zero_add t
        refine Exists.elim (gr_at hj' (getD_mem (l := (gr A).getD j []) (t := t) htj)) (fun v hv => ?_)
        refine Exists.elim (gr_at hj' (getD_mem (l := (gr A).getD j []) (t := 0) (by omega))) (fun v0 hv0 => ?_)
        have ev := hv.1
        have hvl : v < l.length := by have := hv.2.1; omega
        have ek := hv.2.2.2
        have ev0 := hv0.1
        have hvl0 : v0 < l.length := by have := hv0.2.1; omega
        have ek0 := hv0.2.2.2
        clear hv hv0
        have eV : ((gr A).getD (0 + j) []).getD (0 + t) 0 = (v : Int) := by rw [zj, zt]; exact ev
        have eV0 : ((gr A).getD (0 + j) []).getD (0 + 0) 0 = (v0 : Int) := by rw [zj]; exact ev0
        have eN : 0 + (((gr A).getD (0 + j) []).getD (0 + t) 0).toNat = v := by rw [eV]; omega
        have eN0 : 0 + (((gr A).getD (0 + j) []).getD (0 + 0) 0).toNat = v0 := by rw [eV0]; omega
        have ekk : keyL (pa i) (l.getD v sn0) = keyL (pa i) (l.getD v0 sn0) := by rw [← hAp v hvl, ← hAp v0 hvl0, ek, ek0]
        have egi : gi K v = gi K v0 := gi_same (by rw [hKp v hvl, hKp v0 hvl0]; exact hC _ _ ekk)
        have pv : p1.getD (0 + (((gr A).getD (0 + j) []).getD (0 + t) 0).toNat) 0 = (gi K v : Int) := by rw [eN]; exact mkA v hvl
        have pv0 : p1.getD (0 + (((gr A).getD (0 + j) []).getD (0 + 0) 0).toNat) 0 = (gi K v : Int) := by rw [eN0, egi]; exact mkA v0 hvl0
        have hsm : smB (pa (0 + i)) (l.getD (0 + (((gr A).getD (0 + j) []).getD (0 + t) 0).toNat) sn0) (l.getD (0 + (((gr A).getD (0 + j) []).getD (0 + 0) 0).toNat) sn0) = true := by
          rw [eN, eN0, z0, smB, hA, ekk]; simp
        repeat refine AJoin.plain ?_
        refine And.intro ⟨by omega, htl2⟩ ?_
        refine And.intro (by show 0 + t < ((gr A).getD (0 + j) []).length; omega) ?_
        repeat (first | refine And.intro (by kernel_rfl) ?_ | refine And.intro (by decide) ?_)
        refine bselD (fun c => absurd (show ((gr A).getD (0 + j) []).getD (0 + t) 0 < 0 from c) (by rw [eV]; omega)) (fun _ => ?_)
        repeat (first | refine And.intro (by kernel_rfl) ?_ | refine And.intro (by decide) ?_)
        refine bselD (fun c => absurd (show ((gr A).getD (0 + j) []).getD (0 + t) 0 ≥ (l.length : Int) from c) (by rw [eV]; omega)) (fun _ => ?_)
        refine And.intro ⟨by show 0 ≤ ((gr A).getD (0 + j) []).getD (0 + t) 0; rw [eV]; omega, by show ((gr A).getD (0 + j) []).getD (0 + t) 0 < (l.length : Int); rw [eV]; omega⟩ ?_
        refine And.intro (by show 0 + (((gr A).getD (0 + j) []).getD (0 + t) 0).toNat < p1.length; rw [eN]; omega) ?_
        repeat (first | refine And.intro (by kernel_rfl) ?_ | refine And.intro (by decide) ?_)
        refine bselD (fun c => absurd (show p1.getD (0 + (((gr A).getD (0 + j) []).getD (0 + t) 0).toNat) 0 < 0 from c) (by rw [pv]; omega)) (fun _ => ?_)
        refine And.intro ⟨by show 0 ≤ ((gr A).getD (0 + j) []).getD (0 + t) 0; rw [eV]; omega, by show ((gr A).getD (0 + j) []).getD (0 + t) 0 < (l.length : Int); rw [eV]; omega⟩ ?_
        refine And.intro (by show 0 + (((gr A).getD (0 + j) []).getD (0 + t) 0).toNat < p1.length; rw [eN]; omega) ?_
        refine And.intro ⟨by omega, by show (0 : Int) < (((gr A).getD (0 + j) []).length : Int); omega⟩ ?_
        refine And.intro (by show 0 + 0 < ((gr A).getD (0 + j) []).length; omega) ?_
        refine And.intro ⟨by show 0 ≤ ((gr A).getD (0 + j) []).getD (0 + 0) 0; rw [eV0]; omega, by show ((gr A).getD (0 + j) []).getD (0 + 0) 0 < (l.length : Int); rw [eV0]; omega⟩ ?_
        refine And.intro (by show 0 + (((gr A).getD (0 + j) []).getD (0 + 0) 0).toNat < p1.length; rw [eN0]; omega) ?_
        repeat (first | refine And.intro (by kernel_rfl) ?_ | refine And.intro (by decide) ?_)
        refine bselN (fun c => absurd (show p1.getD (0 + (((gr A).getD (0 + j) []).getD (0 + t) 0).toNat) 0 = p1.getD (0 + (((gr A).getD (0 + j) []).getD (0 + 0) 0).toNat) 0 by rw [pv, pv0]) c) (fun _ => ?_)
        repeat (first | refine And.intro (by kernel_rfl) ?_ | refine And.intro (by decide) ?_)
        refine And.intro ⟨by show 0 ≤ ((gr A).getD (0 + j) []).getD (0 + t) 0; rw [eV]; omega, by show ((gr A).getD (0 + j) []).getD (0 + t) 0 < (l.length : Int); rw [eV]; omega⟩ ?_
        refine And.intro (by show 0 + (((gr A).getD (0 + j) []).getD (0 + t) 0).toNat < l.length; rw [eN]; exact hvl) ?_
        refine And.intro ⟨by omega, by show (0 : Int) < (((gr A).getD (0 + j) []).length : Int); omega⟩ ?_
        refine And.intro (by show 0 + 0 < ((gr A).getD (0 + j) []).length; omega) ?_
        refine And.intro ⟨by show 0 ≤ ((gr A).getD (0 + j) []).getD (0 + 0) 0; rw [eV0]; omega, by show ((gr A).getD (0 + j) []).getD (0 + 0) 0 < (l.length : Int); rw [eV0]; omega⟩ ?_
        refine And.intro (by show 0 + (((gr A).getD (0 + j) []).getD (0 + 0) 0).toNat < l.length; rw [eN0]; exact hvl0) ?_
        repeat (first | refine And.intro (by kernel_rfl) ?_ | refine And.intro (by decide) ?_)
        refine FC.u (same_fc (pa (0 + i)) (l.getD (0 + (((gr A).getD (0 + j) []).getD (0 + t) 0).toNat) sn0) (l.getD (0 + (((gr A).getD (0 + j) []).getD (0 + 0) 0).toNat) sn0)) [] ?_
        repeat (first | refine And.intro (by kernel_rfl) ?_ | refine And.intro (by decide) ?_)
        refine bselNot (bsel_intro (fun _ => ?_) (fun c => absurd (hsm.symm.trans c) (by decide)))
        repeat (first | refine And.intro (by kernel_rfl) ?_ | refine And.intro (by decide) ?_)
        exact ⟨⟨t + 1, n2 + 1⟩, ⟨⟨ht', by show n2 + 1 = n + (t + 1); omega⟩, by show ((gr A).getD (0 + j) []).length - (t + 1) < ((gr A).getD (0 + j) []).length - t; omega⟩, .id ⟨congrArg (int .i64) wn, congrArg (int .i64) wt, trivial⟩ rfl trivial rfl⟩
      · have htl2 : ¬ (t : Int) < (((gr A).getD (0 + j) []).length : Int) := htl
        clear htl
        have hte : t = ((gr A).getD (0 + j) []).length := by omega
        rw [zj] at hte
        repeat (first | refine And.intro (by kernel_rfl) ?_ | refine And.intro (by decide) ?_)
        exact ⟨⟨j + 1, n2⟩, ⟨⟨hj', by show n2 = tot ((gr A).take (j + 1)); omega⟩, by show (gr A).length - (j + 1) < (gr A).length - j; omega⟩, isAt.giv _ (MLe.fgt 7 (j + 1) rfl (by omega) (fun j' c e => by cases e; show 0 + j < j + 1; omega)) (.id ⟨rfl, congrArg (int .i64) wj, trivial⟩ rfl ⟨.inl rfl, trivial⟩ rfl)⟩
    · have hjl2 : ¬ (j : Int) < ((gr A).length : Int) := hjl
      clear hjl
      have hje : j = (gr A).length := by omega
      have hnn : n = l.length := by rw [hn, hje, List.take_length, htot, KA]
      repeat (first | refine And.intro (by kernel_rfl) ?_ | refine And.intro (by decide) ?_)
      refine bselN (fun c => absurd (show (n : Int) = (l.length : Int) by rw [hnn]) c) (fun _ => ?_)
      repeat (first | refine And.intro (by kernel_rfl) ?_ | refine And.intro (by decide) ?_)
      exact ⟨i + 1, ⟨by omega, by show 6 - (i + 1) < 6 - i; omega⟩, .id ⟨congrArg (int .i64) wi, trivial⟩ rfl ⟨.inl rfl, .inl rfl, trivial⟩ rfl⟩
end Go.Sx.T1.Nested
