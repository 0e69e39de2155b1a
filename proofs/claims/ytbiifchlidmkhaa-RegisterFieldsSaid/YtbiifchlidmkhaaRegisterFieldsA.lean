/- Contracts of the functions that RegisterFields reaches, and the walk of the law, part 1. Conditions: none. -/
import Derived.Test.YtbiifchlidmkhaaSxTwo
import Derived.Test.YtbiifchlidmkhaaChecked
namespace Go.Sx.T1
open Go.Proofs

theorem mix : Try.prog.follows .mixedOrders = true := by kernel_rfl

def mMod (n m : Int) : Int := if m < 1 then 0 else n % m

theorem tmod_fix (n m : Int) (h : 1 ≤ m) : (n.tmod m < 0 → n.tmod m + m = n % m) ∧ (¬ n.tmod m < 0 → n.tmod m = n % m) := by
  have h1 := Int.emod_lt_of_pos n (show 0 < m by omega)
  have h2 := Int.emod_nonneg n (show m ≠ 0 by omega)
  rw [Int.tmod_eq_emod]
  split <;> omega

set_option maxRecDepth 10000 in
theorem mod_fc (n m : Int) (hm : m < 9223372036854775808) : FC Try.prog 20 [int .i64 n, int .i64 m] [] (int .i64 (mMod n m)) [] := by
  refine FC.b mix Try.func20 ?_
  refine bselD (fun h => ?_) (fun h => ?_)
  · exact ⟨congrArg (int .i64) (by simp [mMod, h]), trivial⟩
  · refine ⟨by omega, ?_⟩
    have hlt := Int.tmod_lt_of_pos n (show 0 < m by omega)
    have hgt := Int.lt_tmod_of_pos n (show 0 < m by omega)
    have e := tmod_fix n m (by omega)
    refine bselD (fun h2 => ?_) (fun h2 => ?_)
    · refine ⟨congrArg (int .i64) ?_, trivial⟩
      rw [wrap64_in (by omega) (by omega)]
      simp only [mMod, h, if_false]
      exact e.1 h2
    · exact ⟨congrArg (int .i64) (by simp [mMod, h]; exact e.2 h2), trivial⟩

/-- the dice: name 0 the two fields, name 1 the numbers; k numbers have been asked for -/
def diceB (ts : List Int) (k : Nat) : Option Blk := some ⟨.box [.s 1 0 ts.length 1, .v (.int .i64 (min k ts.length : Nat))], true⟩
def diceL (ts : List Int) : Option Blk := some ⟨.ints .i64 ts, false⟩
def dv (ts : List Int) (k : Nat) (n : Int) : Int := mMod (ts.getD k 0) n

set_option maxRecDepth 10000 in
theorem next_fc (ts : List Int) (k : Nat) (n : Int) (hn : n < 9223372036854775808) (hl : ts.length ≤ 400) :
    FC Try.prog 19 [.o (.c (.p 0 0 0)), int .i64 n] [diceB ts k, diceL ts] (int .i64 (dv ts k n)) [diceB ts (k + 1), diceL ts] := by
  refine FC.b mix Try.func19 ?_
  refine ⟨by kernel_rfl, ?_⟩
  refine bselD (fun h => ?_) (fun h => ?_)
  · have h' : ts.length ≤ k := by omega
    refine ⟨congrArg (int .i64) ?_, congrArg some ?_, rfl, trivial⟩
    · simp [dv, h', mMod]
    · simp [Nat.min_eq_right h', Nat.min_eq_right (Nat.le_succ_of_le h')]
  · have h' : k < ts.length := by omega
    have e : min k ts.length = k := Nat.min_eq_left (by omega)
    have e2 : min (k + 1) ts.length = k + 1 := Nat.min_eq_left (by omega)
    have w1 : IntKind.i64.wrap ((k : Int) + 1) = (k : Int) + 1 := wrap64_in (by omega) (by omega)
    have w2 : IntKind.i64.wrap ((k : Int) + 1 - 1) = (k : Int) := by rw [wrap64_in (by omega) (by omega)]; omega
    skip
    refine ⟨⟨?_, ?_⟩, ?_, ?_⟩
    · rw [e, w1, w2]; omega
    · rw [e, w1, w2]; omega
    · rw [e, w1, w2]; omega
    refine FC.use (mod_fc (ts.getD k 0) n hn) [] (congrArg (fun x => [int .i64 (ts.getD x 0), int .i64 n]) ?_) rfl trivial rfl rfl trivial ?_
    · rw [e, w1, w2]; simp
    refine ⟨by kernel_rfl, ?_⟩
    refine ⟨congrArg (int .i64) ?_, congrArg some ?_, rfl, trivial⟩
    · rfl
    · rw [e, w1, e2]; rfl
end Go.Sx.T1
namespace Go.Sx.T1
open Go.Proofs
set_option maxRecDepth 10000 in
theorem light_fc (ts : List Int) : FC Try.prog 7 [.o (.c (.s 0 0 ts.length 1))] [diceL ts] (boo (decide (ts.length ≤ 400))) [diceL ts] := by
  refine FC.b mix Try.func7 ?_
  exact ⟨congrArg boo (show decide ((ts.length : Int) ≤ 400) = decide (ts.length ≤ 400) by rw [Bool.eq_iff_iff]; simp; omega), rfl, trivial⟩
set_option maxRecDepth 10000 in
theorem roll_fc (ts : List Int) : FC Try.prog 9 [.o (.c (.s 0 0 ts.length 1))] [diceL ts] (.o (.c (.p 1 0 0))) [diceL ts, some ⟨.box [.s 0 0 ts.length 1, .v (.int .i64 0)], true⟩] := by
  refine FC.b mix Try.func9 ?_
  exact ⟨rfl, rfl, rfl, trivial⟩
theorem mMod_bd {n m : Int} (h : 1 ≤ m) : 0 ≤ mMod n m ∧ mMod n m < m := by
  unfold mMod
  rw [if_neg (by omega)]
  exact ⟨Int.emod_nonneg n (by omega), Int.emod_lt_of_pos n (by omega)⟩
theorem dv_bd (ts : List Int) (k : Nat) {n : Int} (h : 1 ≤ n) : 0 ≤ dv ts k n ∧ dv ts k n < n := mMod_bd h

theorem next_x (ts : List Int) (k : Nat) (n : Int) (hn : n < 9223372036854775808) (hl : ts.length ≤ 400) :
    ∃ v, FC Try.prog 19 [.o (.c (.p 0 0 0)), int .i64 n] [diceB ts k, diceL ts] (int .i64 v) [diceB ts (k + 1), diceL ts] ∧ v = dv ts k n := ⟨_, next_fc ts k n hn hl, rfl⟩
def u8s (xs : List Int) (wr : Bool) : Option Blk := some ⟨.ints .u8 xs, wr⟩
def i64s (xs : List Int) (wr : Bool) : Option Blk := some ⟨.ints .i64 xs, wr⟩
theorem newI (sz : Nat) {k : IntKind} (h : sz = 1) : Bk.fits (.ints k []) sz ∧ Bk.need (.ints k []) = 0 := ⟨.inr ⟨h, Nat.le_refl 1, fun _ h => absurd h (Nat.not_lt_zero _)⟩, rfl⟩
end Go.Sx.T1
namespace Go.Sx.T1
open Go.Proofs
structure S6 where
  a : Int
  b : Int
  c : Int
  d : Int
  e : Int
  f : Int
def S6.get (s : S6) : Nat → Int
  | 0 => s.a
  | 1 => s.b
  | 2 => s.c
  | 3 => s.d
  | 4 => s.e
  | _ => s.f
def s6C (s : S6) : List C := [.v (.int .i64 s.a), .v (.int .i64 s.b), .v (.int .i64 s.c), .v (.int .i64 s.d), .v (.int .i64 s.e), .v (.int .i64 s.f)]
def s6S (s : S6) : SV := .o (.a (s6C s))
def sumTo (s : S6) : Nat → Int
  | 0 => 0
  | i + 1 => sumTo s i + s.get i
def ShV (s : S6) : Prop := (∀ j, j < 6 → 0 ≤ s.get j ∧ s.get j ≤ 12) ∧ sumTo s 6 ≤ 12
theorem sumTo_bd {s : S6} : ∀ i, (∀ j, j < i → 0 ≤ s.get j ∧ s.get j ≤ 12) → 0 ≤ sumTo s i ∧ sumTo s i ≤ 12 * i
  | 0, _ => by simp [sumTo]
  | i + 1, h => by
    have h1 := sumTo_bd i fun j hj => h j (by omega)
    have h2 := h i (by omega)
    simp only [sumTo]
    omega
set_option maxHeartbeats 3200000 in
set_option maxRecDepth 10000 in
theorem widths_fc (s : S6) : FC Try.prog 32 [s6S s] [] (s6S s) [] := by
  refine FC.one (FC.r mix Try.func32 ?_)
  exact ⟨(), trivial, .id rfl trivial⟩
set_option maxHeartbeats 3200000 in
set_option maxRecDepth 10000 in
theorem bits_fc (s : S6) : FC Try.prog 33 [s6S s] [] (s6S s) [] := by
  refine FC.one (FC.r mix Try.func33 ?_)
  exact ⟨(), trivial, .id rfl trivial⟩
theorem below6 {i : Nat} (h : i < 6) : i = 0 ∨ i = 1 ∨ i = 2 ∨ i = 3 ∨ i = 4 ∨ i = 5 := by omega
set_option maxHeartbeats 3200000 in
set_option maxRecDepth 10000 in
theorem pvalid_fc (s : S6) : ∃ b : Bool, FC Try.prog 25 [s6S s] [] (boo b) [] ∧ (b = true ↔ ShV s) := by
  refine FC.rj mix Try.func25 ?_
  refine FC.u (widths_fc s) [] ?_
  refine ALoop.go (X := Nat) (fun i => i ≤ 6 ∧ ∀ j, j < i → 0 ≤ s.get j ∧ s.get j ≤ 12) (fun i => 6 - i) [7] [] (fun i => [(3, int .i64 (sumTo s i)), (8, int .i64 i)])
    (fun _ => []) 0 ⟨Nat.zero_le _, fun j h => absurd h (Nat.not_lt_zero _)⟩ ⟨rfl, rfl, trivial⟩ trivial ?_
  rintro i ⟨hi, ha⟩
  dsimp only [headF, headM]
  refine bselD (fun h => ?_) (fun h => ?_)
  · have h' : i < 6 := by have : (i : Int) < 6 := h; omega
    have wi : IntKind.i64.wrap ((i : Int) + 1) = ((i + 1 : Nat) : Int) := wrap64_in (by omega) (by omega)
    have bad : (0 ≤ s.get i ∧ s.get i ≤ 12 → False) → (false = true ↔ ShV s) := fun hb => ⟨fun h => (by cases h), fun v => (hb (v.1 i h')).elim⟩
    have bd := sumTo_bd i ha
    have nxt : 0 ≤ s.get i ∧ s.get i ≤ 12 → (∀ j, j < i + 1 → 0 ≤ s.get j ∧ s.get j ≤ 12) ∧ IntKind.i64.wrap (sumTo s i + s.get i) = sumTo s (i + 1) := fun h => by
      refine ⟨fun j hj => ?_, wrap64_in (by omega) (by omega)⟩
      rcases Nat.lt_or_ge j i with h' | h'
      · exact ha j h'
      · obtain rfl : j = i := by omega
        exact h
    repeat refine AJoin.plain ?_
    rcases below6 h' with rfl | rfl | rfl | rfl | rfl | rfl <;>
    · refine And.intro ⟨by decide, by decide⟩ ?_
      refine bselD (fun c1 => ?_) (fun c1 => bselD (fun c2 => ?_) (fun c2 => ?_))
      · exact ⟨false, bad fun h => by have c1' := c1; exact absurd h.1 (Int.not_le.2 c1'), .id rfl trivial⟩
      · exact ⟨false, bad fun h => by have c2' := c2; exact absurd c2' (Int.not_lt.2 h.2), .id rfl trivial⟩
      · obtain ⟨n1, n2⟩ := nxt ⟨Int.not_lt.1 c1, Int.not_lt.1 c2⟩
        exact ⟨_, ⟨⟨by decide, n1⟩, by decide⟩, .id ⟨congrArg (int .i64) n2, congrArg (int .i64) wi, trivial⟩ rfl trivial rfl⟩
  · obtain rfl : i = 6 := by have : ¬ (i : Int) < 6 := h; omega
    refine ⟨decide (sumTo s 6 ≤ 12), ?_, .id rfl trivial⟩
    show decide (sumTo s 6 ≤ 12) = true ↔ ShV s
    rw [decide_eq_true_iff]
    exact ⟨fun h => ⟨ha, h⟩, fun v => v.2⟩
end Go.Sx.T1
namespace Go.Sx.T1
open Go.Proofs
def u64s (xs : List Int) (wr : Bool) : Option Blk := some ⟨.ints .u64 xs, wr⟩
structure MapR where
  s : S6
  M : List Int
  lo : Int
  hi : Int
def mC (m : MapR) (n : Nat) : List C := [.v (.int .i64 m.s.a), .v (.int .i64 m.s.b), .v (.int .i64 m.s.c), .v (.int .i64 m.s.d), .v (.int .i64 m.s.e), .v (.int .i64 m.s.f), .s n 0 m.M.length 1, .v (.int .i64 m.lo), .v (.int .i64 m.hi)]
def mS (m : MapR) (n : Nat) : SV := .o (.a (mC m n))
set_option maxHeartbeats 3200000 in
set_option maxRecDepth 10000 in
theorem rvalid_fc (s : S6) : ∃ b : Bool, FC Try.prog 28 [s6S s] [] (boo b) [] ∧ (b = true ↔ ShV s) := by
  refine FC.rj mix Try.func28 ?_
  refine FC.u (bits_fc s) [] ?_
  refine ALoop.go (X := Nat) (fun i => i ≤ 6 ∧ ∀ j, j < i → 0 ≤ s.get j ∧ s.get j ≤ 12) (fun i => 6 - i) [3] [1] (fun i => [(4, int .i64 (sumTo s i)), (5, int .i64 i)])
    (fun _ => []) 0 ⟨Nat.zero_le _, fun j h => absurd h (Nat.not_lt_zero _)⟩ ⟨rfl, rfl, trivial⟩ trivial ?_
  rintro i ⟨hi, ha⟩
  dsimp only [headF, headM]
  refine bselD (fun h => ?_) (fun h => ?_)
  · have h' : i < 6 := by have : (i : Int) < 6 := h; omega
    have wi : IntKind.i64.wrap ((i : Int) + 1) = ((i + 1 : Nat) : Int) := wrap64_in (by omega) (by omega)
    have bad : (0 ≤ s.get i ∧ s.get i ≤ 12 → False) → (false = true ↔ ShV s) := fun hb => ⟨fun h => (by cases h), fun v => (hb (v.1 i h')).elim⟩
    have bd := sumTo_bd i ha
    have nxt : 0 ≤ s.get i ∧ s.get i ≤ 12 → (∀ j, j < i + 1 → 0 ≤ s.get j ∧ s.get j ≤ 12) ∧ IntKind.i64.wrap (sumTo s i + s.get i) = sumTo s (i + 1) := fun h => by
      refine ⟨fun j hj => ?_, wrap64_in (by omega) (by omega)⟩
      rcases Nat.lt_or_ge j i with h' | h'
      · exact ha j h'
      · obtain rfl : j = i := by omega
        exact h
    repeat refine AJoin.plain ?_
    rcases below6 h' with rfl | rfl | rfl | rfl | rfl | rfl <;>
    · refine And.intro ⟨by decide, by decide⟩ ?_
      refine bselD (fun c1 => ?_) (fun c1 => ?_)
      · exact ⟨false, bad fun h => by have c1' := c1; exact absurd h.1 (Int.not_le.2 c1'), .id rfl trivial⟩
      · refine And.intro ⟨by decide, by decide⟩ ?_
        refine bselD (fun c2 => ?_) (fun c2 => ?_)
        · exact ⟨false, bad fun h => by have c2' := c2; exact absurd c2' (Int.not_lt.2 h.2), .id rfl trivial⟩
        · repeat refine AJoin.plain ?_
          refine And.intro ⟨by decide, by decide⟩ ?_
          obtain ⟨n1, n2⟩ := nxt ⟨Int.not_lt.1 c1, Int.not_lt.1 c2⟩
          exact ⟨_, ⟨⟨by decide, n1⟩, by decide⟩, .id ⟨congrArg (int .i64) n2, congrArg (int .i64) wi, trivial⟩ rfl trivial rfl⟩
  · obtain rfl : i = 6 := by have : ¬ (i : Int) < 6 := h; omega
    refine ⟨decide (sumTo s 6 ≤ 12), ?_, .id rfl trivial⟩
    show decide (sumTo s 6 ≤ 12) = true ↔ ShV s
    rw [decide_eq_true_iff]
    exact ⟨fun h => ⟨ha, h⟩, fun v => v.2⟩
def LimV (m : MapR) : Prop := 0 ≤ m.lo ∧ m.lo ≤ 1048576 ∧ 0 ≤ m.hi ∧ m.hi ≤ 1048576
set_option maxHeartbeats 3200000 in
set_option maxRecDepth 10000 in
theorem samelist_fc (xs ys : List Int) (h32 : xs.length ≤ 4294967296) (h33 : ys.length ≤ 4294967296) : ∃ b : Bool, FC Try.prog 13 [.o (.c (.s 0 0 xs.length 1)), .o (.c (.s 1 0 ys.length 1))] [u64s xs false, u64s ys false] (boo b) [u64s xs false, u64s ys false] ∧ (b = true ↔ xs = ys) := by
  refine FC.rj mix Try.func13 ?_
  refine bselN (fun h => ?_) (fun h => ?_)
  · exact ⟨false, ⟨fun h => (by cases h), fun e => by exfalso; exact h (by rw [e])⟩, .id rfl ⟨.inl rfl, .inl rfl, trivial⟩⟩
  have hl : xs.length = ys.length := Int.ofNat.inj h
  repeat refine AJoin.plain ?_
  refine ALoop.go (X := Nat) (fun i => i ≤ xs.length ∧ ∀ j, j < i → xs.getD j 0 = ys.getD j 0) (fun i => xs.length - i) [0, 1] [0, 1] (fun i => [(5, int .i64 i)])
    (fun _ => []) 0 ⟨Nat.zero_le _, fun j h => absurd h (Nat.not_lt_zero _)⟩ ⟨rfl, trivial⟩ trivial ?_
  rintro i ⟨hi, ha⟩
  dsimp only [headF, headM]
  refine bselD (fun h => ?_) (fun h => ?_)
  · have h' : i < xs.length := by have : (i : Int) < xs.length := h; omega
    have wi : IntKind.i64.wrap ((i : Int) + 1) = ((i + 1 : Nat) : Int) := wrap64_in (by omega) (by omega)
    repeat refine AJoin.plain ?_
    refine And.intro ⟨by omega, by omega⟩ ?_
    refine And.intro (by show 0 + i < xs.length; omega) ?_
    repeat (first | refine And.intro (by kernel_rfl) ?_ | refine And.intro (by decide) ?_)
    refine And.intro ⟨by omega, by omega⟩ ?_
    refine And.intro (by show 0 + i < ys.length; omega) ?_
    repeat (first | refine And.intro (by kernel_rfl) ?_ | refine And.intro (by decide) ?_)
    refine bselN (fun c => ?_) (fun c => ?_)
    · repeat (first | refine And.intro (by kernel_rfl) ?_ | refine And.intro (by decide) ?_)
      refine ⟨false, ⟨fun h => (by cases h), fun e => ?_⟩, .id rfl ⟨.inl rfl, .inl rfl, trivial⟩⟩
      exfalso
      exact c (by rw [e])
    · repeat (first | refine And.intro (by kernel_rfl) ?_ | refine And.intro (by decide) ?_)
      refine ⟨i + 1, ⟨⟨by omega, fun j hj => ?_⟩, by show xs.length - (i + 1) < xs.length - i; omega⟩, .id ⟨congrArg (int .i64) wi, trivial⟩ rfl trivial rfl⟩
      rcases Nat.lt_or_ge j i with h' | h'
      · exact ha j h'
      · obtain rfl : j = i := by omega
        have c' : xs.getD (0 + j) 0 = ys.getD (0 + j) 0 := c
        rwa [Nat.zero_add] at c'
  · obtain rfl : i = xs.length := by have : ¬ (i : Int) < xs.length := h; omega
    refine ⟨true, ⟨fun _ => ?_, fun _ => rfl⟩, .id rfl ⟨.inl rfl, .inl rfl, trivial⟩⟩
    refine List.ext_getElem hl fun j h1 h2 => ?_
    have := ha j h1
    simpa [List.getD, h1, h2] using this
end Go.Sx.T1
namespace Go.Sx.T1
open Go.Proofs
def sh6 (i : Nat) : Nat := min (IntKind.i64.wrap (4 * (i : Int))).toNat IntKind.u64.bits
theorem sh6_eq {i : Nat} (h : i < 6) : min (IntKind.i64.wrap (4 * (i : Int))).toNat IntKind.u64.bits = 4 * i := by
  rcases below6 h with rfl | rfl | rfl | rfl | rfl | rfl <;> decide
theorem sh6_eq' {i : Nat} (h : i < 6) : min (IntKind.u64.wrap (IntKind.i64.wrap (4 * (i : Int)))).toNat IntKind.u64.bits = 4 * i := by
  rcases below6 h with rfl | rfl | rfl | rfl | rfl | rfl <;> decide
def encW (s : S6) (r0 : Int) : Nat → Int
  | 0 => r0
  | i + 1 => bitI .or .u64 (encW s r0 i) (IntKind.u64.wrap (IntKind.u64.wrap (s.get i) * 2 ^ (4 * i)))
def r0F (n : Int) : Int := bitI .or .u64 5548434740920451072 (IntKind.u64.wrap (IntKind.u64.wrap n * 2 ^ min (Int.toNat 24) IntKind.u64.bits))
def secF (lo hi : Int) : Int := bitI .or .u64 (IntKind.u64.wrap (IntKind.u64.wrap hi * 2 ^ min (Int.toNat 32) IntKind.u64.bits)) (IntKind.u64.wrap lo)
open Classical in
noncomputable def encF (m : MapR) : List Int × Int :=
  if ¬ ShV m.s then ([], 1) else if m.M.length > 12 then ([], 7) else if ¬ LimV m then ([], 2)
  else ([encW m.s (r0F m.M.length) 6, secF m.lo m.hi] ++ m.M, 0)
def encS (p : List Int × Int) : SV := .t [.c (.s 1 0 p.1.length 1), .c (.v (.int .i64 p.2))]
def encM (m : MapR) (p : List Int × Int) : Mem := [u64s m.M false, u64s p.1 true]
theorem encF_1 {m : MapR} (h : ¬ ShV m.s) : encF m = ([], 1) := by simp [encF, h]
theorem encF_7 {m : MapR} (h : ShV m.s) (h2 : m.M.length > 12) : encF m = ([], 7) := by unfold encF; rw [if_neg (not_not_intro h), if_pos h2]
theorem encF_2 {m : MapR} (h : ShV m.s) (h2 : ¬ m.M.length > 12) (h3 : ¬ LimV m) : encF m = ([], 2) := by unfold encF; rw [if_neg (not_not_intro h), if_neg h2, if_pos h3]
theorem encF_0 {m : MapR} (h : ShV m.s) (h2 : ¬ m.M.length > 12) (h3 : LimV m) : encF m = ([encW m.s (r0F m.M.length) 6, secF m.lo m.hi] ++ m.M, 0) := by
  unfold encF; rw [if_neg (not_not_intro h), if_neg h2, if_neg (not_not_intro h3)]
set_option maxHeartbeats 3200000 in
set_option maxRecDepth 10000 in
theorem limits_fc (m : MapR) : ∃ b : Bool, FC Try.prog 26 [mS m 0] [u64s m.M false] (boo b) [u64s m.M false] ∧ (b = true ↔ LimV m) := by
  refine FC.r mix Try.func26 ?_
  refine bselD (fun h1 => ?_) (fun h1 => ?_)
  · refine bselD (fun h2 => ?_) (fun h2 => ?_)
    · refine bselD (fun h3 => ?_) (fun h3 => ?_)
      · refine ⟨decide (m.hi ≤ 1048576), ?_, .id rfl ⟨.inl rfl, trivial⟩⟩
        show decide (m.hi ≤ 1048576) = true ↔ LimV m
        rw [decide_eq_true_iff]
        exact ⟨fun h => ⟨h1, h2, h3, h⟩, fun v => v.2.2.2⟩
      · exact ⟨false, ⟨fun h => (by cases h), fun v => (h3 v.2.2.1).elim⟩, .id rfl ⟨.inl rfl, trivial⟩⟩
    · exact ⟨false, ⟨fun h => (by cases h), fun v => (h2 v.2.1).elim⟩, .id rfl ⟨.inl rfl, trivial⟩⟩
  · exact ⟨false, ⟨fun h => (by cases h), fun v => (h1 v.1).elim⟩, .id rfl ⟨.inl rfl, trivial⟩⟩
def ptrs (n : Nat) (wr : Bool) : Option Blk := some ⟨.rows 1 6 (fun i => [.p n 0 (0 + i)]), wr⟩
theorem ptr_row {L : List C} {n i : Nat} (hi : i < 6) (hL : L = [.p n 0 (0 + 0), .p n 0 (0 + 1), .p n 0 (0 + 2), .p n 0 (0 + 3), .p n 0 (0 + 4), .p n 0 (0 + 5)]) : (L.drop (i * 1)).take 1 = [.p n 0 (0 + i)] := by
  subst hL
  rcases below6 hi with rfl | rfl | rfl | rfl | rfl | rfl <;> rfl
set_option maxHeartbeats 3200000 in
set_option maxRecDepth 10000 in
theorem rwidths_a (m : MapR) : FC Try.prog 27 [.o (.c (.p 1 0 0))] [u64s m.M false, some ⟨.box (mC m 0), false⟩] (.o (.c (.s 2 0 6 1))) [u64s m.M false, some ⟨.box (mC m 0), false⟩, ptrs 1 true] := by
  refine FC.one (FC.r mix Try.func27 ?_)
  repeat (first | refine And.intro (by kernel_rfl) ?_ | refine And.intro (by decide) ?_)
  exact ⟨(), trivial, .id rfl ⟨.inl rfl, .inl rfl, leB.rows (Nat.le_refl _) (fun i hi => ptr_row hi rfl) id, trivial⟩⟩
def zM : MapR := ⟨⟨0, 0, 0, 0, 0, 0⟩, [], 0, 0⟩
def zC : List C := [.v (.int .i64 0), .v (.int .i64 0), .v (.int .i64 0), .v (.int .i64 0), .v (.int .i64 0), .v (.int .i64 0), .v (.slice none 0 0), .v (.int .i64 0), .v (.int .i64 0)]
set_option maxHeartbeats 3200000 in
set_option maxRecDepth 10000 in
theorem rwidths_b : FC Try.prog 27 [.o (.c (.p 0 0 0))] [some ⟨.box zC, false⟩] (.o (.c (.s 1 0 6 1))) [some ⟨.box zC, false⟩, ptrs 0 true] := by
  refine FC.one (FC.r mix Try.func27 ?_)
  repeat (first | refine And.intro (by kernel_rfl) ?_ | refine And.intro (by decide) ?_)
  exact ⟨(), trivial, .id rfl ⟨.inl rfl, leB.rows (Nat.le_refl _) (fun i hi => ptr_row hi rfl) id, trivial⟩⟩
set_option maxHeartbeats 3200000 in
set_option maxRecDepth 10000 in
theorem encode_fc (m : MapR) : ∃ p : List Int × Int, FC Try.prog 12 [mS m 0] [u64s m.M false] (encS p) (encM m p) ∧ p = encF m := by
  refine FC.rj mix Try.func12 ?_
  repeat refine AJoin.plain ?_
  refine FC.x (pvalid_fc m.s) [] (fun b e => ?_)
  refine bselNot (bsel_intro (fun hb => ?_) (fun hb => ?_))
  rotate_left
  · exact ⟨([], 1), (encF_1 fun v => by rw [e.2 v] at hb; cases hb).symm, isEnd.go [(1, .new 1)] rfl ⟨.inl rfl, newI 1 rfl, trivial⟩⟩
  have hv := e.1 hb
  refine bselD (fun h12 => ?_) (fun h12 => ?_)
  · exact ⟨([], 7), (encF_7 hv (by have : (m.M.length : Int) > 12 := h12; omega)).symm, isEnd.go [(1, .new 1)] rfl ⟨.inl rfl, newI 1 rfl, trivial⟩⟩
  have h12' : ¬ m.M.length > 12 := by have : ¬ (m.M.length : Int) > 12 := h12; omega
  refine FC.x (limits_fc m) [0] (fun b2 e2 => ?_)
  refine bselNot (bsel_intro (fun hb2 => ?_) (fun hb2 => ?_))
  rotate_left
  · exact ⟨([], 2), (encF_2 hv h12' fun v => by rw [e2.2 v] at hb2; cases hb2).symm, isEnd.go [(1, .new 1)] rfl ⟨.inl rfl, newI 1 rfl, trivial⟩⟩
  have hlim := e2.1 hb2
  have fin := encF_0 hv h12' hlim
  repeat (first | refine And.intro (by kernel_rfl) ?_ | refine And.intro (by decide) ?_)
  conv => whnf
  generalize hr0 : bitI .or .u64 5548434740920451072 (IntKind.u64.wrap (IntKind.u64.wrap (m.M.length : Int) * 2 ^ min (Int.toNat 24) IntKind.u64.bits)) = r0
  have hr1 : r0F (m.M.length : Int) = r0 := hr0
  rw [hr1] at fin
  clear hr0 hr1
  refine FC.u (rwidths_a m) [0, 1] ?_
  refine ALoop.go (X := Nat) (fun i => i ≤ 6) (fun i => 6 - i) [1, 28, 29] [0, 1, 2] (fun i => [(4, int .u64 (encW m.s r0 i)), (30, int .i64 i)])
    (fun _ => []) 0 (Nat.zero_le _) ⟨rfl, rfl, trivial⟩ trivial ?_
  intro i hi
  dsimp only [headF, headM]
  refine bselD (fun h => ?_) (fun h => ?_)
  · have h' : i < 6 := by have : (i : Int) < 6 := h; omega
    have wi : IntKind.i64.wrap ((i : Int) + 1) = ((i + 1 : Nat) : Int) := wrap64_in (by omega) (by omega)
    have es := sh6_eq h'
    have en : encW m.s r0 (i + 1) = bitI .or .u64 (encW m.s r0 i) (IntKind.u64.wrap (IntKind.u64.wrap (m.s.get i) * 2 ^ min (IntKind.i64.wrap (4 * (i : Int))).toNat IntKind.u64.bits)) := by rw [es]; rfl
    have h4 : 0 ≤ IntKind.i64.wrap (4 * (i : Int)) := by rw [wrap64_in (by omega) (by omega)]; omega
    repeat refine AJoin.plain ?_
    rcases below6 h' with rfl | rfl | rfl | rfl | rfl | rfl <;>
    · refine And.intro ⟨by decide, by decide⟩ ?_
      refine And.intro (by decide) ?_
      repeat refine AJoin.plain ?_
      refine And.intro h4 ?_
      exact ⟨_, ⟨by decide, by decide⟩, .id ⟨congrArg (int .u64) en.symm, congrArg (int .i64) wi, trivial⟩ rfl trivial rfl⟩
  · obtain rfl : i = 6 := by have : ¬ (i : Int) < 6 := h; omega
    generalize encW m.s r0 6 = x at fin ⊢
    repeat (first | refine And.intro (by kernel_rfl) ?_ | refine And.intro (by decide) ?_)
    refine And.intro ⟨Nat.le_of_ble_eq_true rfl, trivial⟩ ?_
    refine And.intro ⟨by show 0 + m.M.length ≤ m.M.length; omega, trivial⟩ ?_
    refine And.intro (by show 2 + m.M.length ≤ 4294967296; omega) ?_
    repeat (first | refine And.intro (by kernel_rfl) ?_ | refine And.intro (by decide) ?_)
    refine ⟨([x, secF m.lo m.hi] ++ m.M, 0), fin.symm, isEnd.go [(1, .to 4)] ?_ ⟨.inl rfl, leB.ints_eq ?_ id, trivial⟩⟩
    · exact congrArg (fun n => SV.t [.c (.s 4 0 n 1), .c (.v (.int .i64 0))]) (show 2 + m.M.length = ([x, secF m.lo m.hi] ++ m.M).length by simp; omega)
    · show List.take 2 (List.drop 0 [x, secF m.lo m.hi]) ++ List.take m.M.length (List.drop 0 m.M) = _
      rw [List.drop_zero, List.drop_zero, List.take_length]; rfl
set_option maxHeartbeats 3200000 in
set_option maxRecDepth 10000 in
theorem encodeR_fc (m : MapR) : ∃ p : List Int × Int, FC Try.prog 16 [mS m 0] [u64s m.M false] (encS p) (encM m p) ∧ p = encF m := by
  refine FC.rj mix Try.func16 ?_
  repeat refine AJoin.plain ?_
  refine FC.x (rvalid_fc m.s) [] (fun b e => ?_)
  refine bselNot (bsel_intro (fun hb => ?_) (fun hb => ?_))
  rotate_left
  · exact ⟨([], 1), (encF_1 fun v => by rw [e.2 v] at hb; cases hb).symm, isEnd.go [(1, .new 1)] rfl ⟨.inl rfl, newI 1 rfl, trivial⟩⟩
  have hv := e.1 hb
  repeat refine AJoin.plain ?_
  refine bselD (fun h12 => ?_) (fun h12 => ?_)
  · exact ⟨([], 7), (encF_7 hv (by have : (m.M.length : Int) > 12 := h12; omega)).symm, isEnd.go [(1, .new 1)] rfl ⟨.inl rfl, newI 1 rfl, trivial⟩⟩
  have h12' : ¬ m.M.length > 12 := by have : ¬ (m.M.length : Int) > 12 := h12; omega
  have bad : ¬ LimV m → ([], 2) = encF m := fun h => (encF_2 hv h12' h).symm
  repeat refine AJoin.plain ?_
  refine bselD (fun c1 => ?_) (fun c1 => ?_)
  · exact ⟨([], 2), bad fun v => absurd v.1 (Int.not_le.2 c1), isEnd.go [(1, .new 1)] rfl ⟨.inl rfl, newI 1 rfl, trivial⟩⟩
  refine bselD (fun c2 => ?_) (fun c2 => ?_)
  · exact ⟨([], 2), bad fun v => absurd v.2.1 (Int.not_le.2 c2), isEnd.go [(1, .new 1)] rfl ⟨.inl rfl, newI 1 rfl, trivial⟩⟩
  refine bselD (fun c3 => ?_) (fun c3 => ?_)
  · exact ⟨([], 2), bad fun v => absurd v.2.2.1 (Int.not_le.2 c3), isEnd.go [(1, .new 1)] rfl ⟨.inl rfl, newI 1 rfl, trivial⟩⟩
  refine bselD (fun c4 => ?_) (fun c4 => ?_)
  · exact ⟨([], 2), bad fun v => absurd v.2.2.2 (Int.not_le.2 c4), isEnd.go [(1, .new 1)] rfl ⟨.inl rfl, newI 1 rfl, trivial⟩⟩
  have fin := encF_0 hv h12' ⟨Int.not_lt.1 c1, Int.not_lt.1 c2, Int.not_lt.1 c3, Int.not_lt.1 c4⟩
  repeat refine AJoin.plain ?_
  repeat (first | refine And.intro (by kernel_rfl) ?_ | refine And.intro (by decide) ?_)
  conv => whnf
  generalize hr0 : bitI .or .u64 5548434740920451072 (IntKind.u64.wrap (IntKind.u64.wrap (m.M.length : Int) * 2 ^ min (Int.toNat 24) IntKind.u64.bits)) = r0
  have hr1 : r0F (m.M.length : Int) = r0 := hr0
  rw [hr1] at fin
  clear hr0 hr1
  refine ALoop.go (X := Nat) (fun i => i ≤ 6) (fun i => 6 - i) [1, 5] [0, 1, 3] (fun i => [(6, int .u64 (encW m.s r0 i)), (7, int .i64 i)])
    (fun _ => []) 0 (Nat.zero_le _) ⟨rfl, rfl, trivial⟩ trivial ?_
  intro i hi
  dsimp only [headF, headM]
  refine bselD (fun h => ?_) (fun h => ?_)
  · have h' : i < 6 := by have : (i : Int) < 6 := h; omega
    have wi : IntKind.i64.wrap ((i : Int) + 1) = ((i + 1 : Nat) : Int) := wrap64_in (by omega) (by omega)
    have es := sh6_eq' h'
    have en : encW m.s r0 (i + 1) = bitI .or .u64 (encW m.s r0 i) (IntKind.u64.wrap (IntKind.u64.wrap (m.s.get i) * 2 ^ min (IntKind.u64.wrap (IntKind.i64.wrap (4 * (i : Int)))).toNat IntKind.u64.bits)) := by rw [es]; rfl
    have h4 : 0 ≤ IntKind.u64.wrap (IntKind.i64.wrap (4 * (i : Int))) := by rw [wrap64_in (by omega) (by omega), wrapU64_in (by omega) (by omega)]; omega
    repeat refine AJoin.plain ?_
    rcases below6 h' with rfl | rfl | rfl | rfl | rfl | rfl <;>
    · refine And.intro ⟨by decide, by decide⟩ ?_
      refine And.intro h4 ?_
      exact ⟨_, ⟨by decide, by decide⟩, .id ⟨congrArg (int .u64) en.symm, congrArg (int .i64) wi, trivial⟩ rfl trivial rfl⟩
  · obtain rfl : i = 6 := by have : ¬ (i : Int) < 6 := h; omega
    generalize encW m.s r0 6 = x at fin ⊢
    repeat (first | refine And.intro (by kernel_rfl) ?_ | refine And.intro (by decide) ?_)
    refine And.intro ⟨Nat.le_of_ble_eq_true rfl, trivial⟩ ?_
    refine And.intro ⟨by show 0 + m.M.length ≤ m.M.length; omega, trivial⟩ ?_
    refine And.intro (by show 2 + m.M.length ≤ 4294967296; omega) ?_
    repeat (first | refine And.intro (by kernel_rfl) ?_ | refine And.intro (by decide) ?_)
    refine ⟨([x, secF m.lo m.hi] ++ m.M, 0), fin.symm, isEnd.go [(1, .to 5)] ?_ ⟨.inl rfl, leB.ints_eq ?_ id, trivial⟩⟩
    · exact congrArg (fun n => SV.t [.c (.s 5 0 n 1), .c (.v (.int .i64 0))]) (show 2 + m.M.length = ([x, secF m.lo m.hi] ++ m.M).length by simp; omega)
    · show List.take 2 (List.drop 0 [x, secF m.lo m.hi]) ++ List.take m.M.length (List.drop 0 m.M) = _
      rw [List.drop_zero, List.drop_zero, List.take_length]; rfl
end Go.Sx.T1
namespace Go.Sx.T1
open Go.Proofs
set_option maxHeartbeats 3200000 in
set_option maxRecDepth 10000 in
theorem equal_fc (xs ys : List Int) (h32 : xs.length ≤ 4294967296) (h33 : ys.length ≤ 4294967296) : ∃ b : Bool, FC Try.prog 29 [.o (.c (.s 0 0 xs.length 1)), .o (.c (.s 1 0 ys.length 1))] [u64s xs false, u64s ys false] (boo b) [u64s xs false, u64s ys false] ∧ (b = true ↔ xs = ys) := by
  refine FC.rj mix Try.func29 ?_
  refine bselN (fun h => ?_) (fun h => ?_)
  · exact ⟨false, ⟨fun h => (by cases h), fun e => by exfalso; exact h (by rw [e])⟩, .id rfl ⟨.inl rfl, .inl rfl, trivial⟩⟩
  have hl : xs.length = ys.length := Int.ofNat.inj h
  repeat refine AJoin.plain ?_
  refine ALoop.go (X := Nat) (fun i => i ≤ xs.length ∧ ∀ j, j < i → xs.getD j 0 = ys.getD j 0) (fun i => xs.length - i) [0, 1, 12] [0, 1] (fun i => [(13, int .i64 i)])
    (fun _ => []) 0 ⟨Nat.zero_le _, fun j h => absurd h (Nat.not_lt_zero _)⟩ ⟨rfl, trivial⟩ trivial ?_
  rintro i ⟨hi, ha⟩
  dsimp only [headF, headM]
  refine bselD (fun h => ?_) (fun h => ?_)
  · have h' : i < xs.length := by have : (i : Int) < xs.length := h; omega
    have wi : IntKind.i64.wrap ((i : Int) + 1) = ((i + 1 : Nat) : Int) := wrap64_in (by omega) (by omega)
    repeat refine AJoin.plain ?_
    refine And.intro ⟨by omega, by omega⟩ ?_
    refine And.intro (by show 0 + i < xs.length; omega) ?_
    repeat (first | refine And.intro (by kernel_rfl) ?_ | refine And.intro (by decide) ?_)
    refine And.intro ⟨by omega, by omega⟩ ?_
    refine And.intro (by show 0 + i < ys.length; omega) ?_
    repeat (first | refine And.intro (by kernel_rfl) ?_ | refine And.intro (by decide) ?_)
    refine bselN (fun c => ?_) (fun c => ?_)
    · repeat (first | refine And.intro (by kernel_rfl) ?_ | refine And.intro (by decide) ?_)
      refine ⟨false, ⟨fun h => (by cases h), fun e => ?_⟩, .id rfl ⟨.inl rfl, .inl rfl, trivial⟩⟩
      exfalso
      exact c (by rw [e])
    · repeat (first | refine And.intro (by kernel_rfl) ?_ | refine And.intro (by decide) ?_)
      refine ⟨i + 1, ⟨⟨by omega, fun j hj => ?_⟩, by show xs.length - (i + 1) < xs.length - i; omega⟩, .id ⟨congrArg (int .i64) wi, trivial⟩ rfl trivial rfl⟩
      rcases Nat.lt_or_ge j i with h' | h'
      · exact ha j h'
      · obtain rfl : j = i := by omega
        have c' : xs.getD (0 + j) 0 = ys.getD (0 + j) 0 := c
        rwa [Nat.zero_add] at c'
  · obtain rfl : i = xs.length := by have : ¬ (i : Int) < xs.length := h; omega
    refine ⟨true, ⟨fun _ => ?_, fun _ => rfl⟩, .id rfl ⟨.inl rfl, .inl rfl, trivial⟩⟩
    refine List.ext_getElem hl fun j h1 h2 => ?_
    have := ha j h1
    simpa [List.getD, h1, h2] using this
theorem map_ext {a b : MapR} (h1 : a.s = b.s) (h2 : a.M = b.M) (h3 : a.lo = b.lo) (h4 : a.hi = b.hi) : a = b := by
  cases a; cases b; simp only at h1 h2 h3 h4; subst h1 h2 h3 h4; rfl
theorem s6_ext {a b : S6} (h1 : a.a = b.a) (h2 : a.b = b.b) (h3 : a.c = b.c) (h4 : a.d = b.d) (h5 : a.e = b.e) (h6 : a.f = b.f) : a = b := by
  cases a; cases b; simp only at h1 h2 h3 h4 h5 h6; subst h1 h2 h3 h4 h5 h6; rfl
set_option maxHeartbeats 3200000 in
set_option maxRecDepth 10000 in
theorem same_fc (x y : MapR) (h32 : x.M.length ≤ 4294967296) (h33 : y.M.length ≤ 4294967296) : ∃ b : Bool, FC Try.prog 17 [mS x 0, mS y 1] [u64s x.M false, u64s y.M false] (boo b) [u64s x.M false, u64s y.M false] ∧ (b = true ↔ x = y) := by
  refine FC.r mix Try.func17 ?_
  repeat (first | refine And.intro (by kernel_rfl) ?_ | refine And.intro (by decide) ?_)
  refine bsel_intro (fun h1 => ?_) (fun h1 => ?_)
  · simp only [Bool.and_eq_true, beq_iff_eq] at h1
    obtain ⟨a1, a2, a3, a4, a5, a6, -⟩ := h1
    have hs := s6_ext a1 a2 a3 a4 a5 a6
    refine bselE (fun h2 => ?_) (fun h2 => ?_)
    · refine bselE (fun h3 => ?_) (fun h3 => ?_)
      · refine FC.x (equal_fc x.M y.M h32 h33) [0, 1] (fun b e => ?_)
        refine ⟨b, ?_, .id rfl ⟨.inl rfl, .inl rfl, trivial⟩⟩
        exact e.trans ⟨fun h => map_ext hs h h2 h3, fun h => by rw [h]⟩
      · exact ⟨false, ⟨fun h => (by cases h), fun e => by exfalso; exact h3 (by rw [e])⟩, .id rfl ⟨.inl rfl, .inl rfl, trivial⟩⟩
    · exact ⟨false, ⟨fun h => (by cases h), fun e => by exfalso; exact h2 (by rw [e])⟩, .id rfl ⟨.inl rfl, .inl rfl, trivial⟩⟩
  · refine ⟨false, ⟨fun h => (by cases h), fun e => ?_⟩, .id rfl ⟨.inl rfl, .inl rfl, trivial⟩⟩
    exfalso
    subst e
    simp at h1
set_option maxHeartbeats 3200000 in
set_option maxRecDepth 10000 in
theorem sameR_fc (x y : MapR) (h32 : x.M.length ≤ 4294967296) (h33 : y.M.length ≤ 4294967296) : ∃ b : Bool, FC Try.prog 18 [mS x 0, mS y 1] [u64s x.M false, u64s y.M false] (boo b) [u64s x.M false, u64s y.M false] ∧ (b = true ↔ x = y) := by
  refine FC.r mix Try.func18 ?_
  repeat (first | refine And.intro (by kernel_rfl) ?_ | refine And.intro (by decide) ?_)
  refine bsel_intro (fun h1 => ?_) (fun h1 => ?_)
  · simp only [Bool.and_eq_true, beq_iff_eq] at h1
    obtain ⟨a1, a2, a3, a4, a5, a6, -⟩ := h1
    have hs := s6_ext a1 a2 a3 a4 a5 a6
    refine bselE (fun h2 => ?_) (fun h2 => ?_)
    · refine bselE (fun h3 => ?_) (fun h3 => ?_)
      · refine FC.x (samelist_fc x.M y.M h32 h33) [0, 1] (fun b e => ?_)
        refine ⟨b, ?_, .id rfl ⟨.inl rfl, .inl rfl, trivial⟩⟩
        exact e.trans ⟨fun h => map_ext hs h h2 h3, fun h => by rw [h]⟩
      · exact ⟨false, ⟨fun h => (by cases h), fun e => by exfalso; exact h3 (by rw [e])⟩, .id rfl ⟨.inl rfl, .inl rfl, trivial⟩⟩
    · exact ⟨false, ⟨fun h => (by cases h), fun e => by exfalso; exact h2 (by rw [e])⟩, .id rfl ⟨.inl rfl, .inl rfl, trivial⟩⟩
  · refine ⟨false, ⟨fun h => (by cases h), fun e => ?_⟩, .id rfl ⟨.inl rfl, .inl rfl, trivial⟩⟩
    exfalso
    subst e
    simp at h1
end Go.Sx.T1
namespace Go.Sx.T1
open Go.Proofs
def S6.set (s : S6) (i : Nat) (x : Int) : S6 := match i with
  | 0 => { s with a := x }
  | 1 => { s with b := x }
  | 2 => { s with c := x }
  | 3 => { s with d := x }
  | 4 => { s with e := x }
  | _ => { s with f := x }
theorem get_set {s : S6} {i j : Nat} (hi : i < 6) (hj : j < 6) (x : Int) : (s.set i x).get j = if j = i then x else s.get j := by
  rcases below6 hi with rfl | rfl | rfl | rfl | rfl | rfl <;> rcases below6 hj with rfl | rfl | rfl | rfl | rfl | rfl <;> rfl
theorem sum_set {s : S6} {i : Nat} (hi : i < 6) (x : Int) : sumTo (s.set i x) 6 = sumTo s 6 - s.get i + x := by
  rcases below6 hi with rfl | rfl | rfl | rfl | rfl | rfl <;> simp only [sumTo, S6.set, S6.get] <;> omega
theorem sum_nn {s : S6} (lo : ∀ j, j < 6 → 0 ≤ s.get j) : 0 ≤ sumTo s 6 := by
  have a0 := lo 0 (by omega); have a1 := lo 1 (by omega); have a2 := lo 2 (by omega); have a3 := lo 3 (by omega); have a4 := lo 4 (by omega); have a5 := lo 5 (by omega)
  simp only [sumTo]
  omega
/-- a shape that was made -/
structure ShG (n : Int) (s : S6) : Prop where
  lo : ∀ j, j < 6 → 0 ≤ s.get j
  sum : sumTo s 6 ≤ n
theorem ShG.le {n : Int} {s : S6} (h : ShG n s) {j : Nat} (hj : j < 6) : s.get j ≤ n := by
  have a0 := h.lo 0 (by omega); have a1 := h.lo 1 (by omega); have a2 := h.lo 2 (by omega); have a3 := h.lo 3 (by omega); have a4 := h.lo 4 (by omega); have a5 := h.lo 5 (by omega)
  have hs := h.sum
  simp only [sumTo] at hs
  rcases below6 hj with rfl | rfl | rfl | rfl | rfl | rfl <;> omega
theorem ShG.v {s : S6} (h : ShG 12 s) : ShV s := ⟨fun j hj => ⟨h.lo j hj, h.le hj⟩, h.sum⟩
structure XS where
  n : Nat
  k : Nat
  s : S6
structure XI (N : Nat) (x : XS) : Prop where
  lo : ∀ j, j < 6 → 0 ≤ x.s.get j
  sum : sumTo x.s 6 + x.n ≤ N
def shM (ts : List Int) (x : S6 × Nat) : Mem := [diceB ts x.2, diceL ts]
set_option maxHeartbeats 3200000 in
set_option maxRecDepth 10000 in
theorem shape_fc (ts : List Int) (k N : Nat) (hl : ts.length ≤ 400) (hN : N ≤ 100) : ∃ x : S6 × Nat, FC Try.prog 11 [.o (.c (.p 0 0 0)), int .i64 N] [diceB ts k, diceL ts] (s6S x.1) (shM ts x) ∧ ShG N x.1 := by
  refine FC.rj mix Try.func11 ?_
  have wN : IntKind.i64.wrap ((N : Int) + 1) = (N : Int) + 1 := wrap64_in (by omega) (by omega)
  conv => whnf
  rw [wN]
  have h1 := dv_bd ts k (n := (N : Int) + 1) (by omega)
  refine FC.x (next_x ts k ((N : Int) + 1) (by omega) hl) [0, 1] (fun n en => ?_)
  rw [← en] at h1
  clear en
  obtain ⟨n, rfl⟩ : ∃ m : Nat, n = m := ⟨n.toNat, by omega⟩
  refine ALoop.go (X := XS) (XI N) (fun x => x.n) [0, 4, 5] [1, 2] (fun x => [(6, int .i64 x.n)])
    (fun x => [(0, ⟨.box [.s 1 0 ts.length 1, .v (.int .i64 (min x.k ts.length : Nat))], true⟩), (3, ⟨.box (s6C x.s), true⟩)]) ⟨n, k + 1, ⟨0, 0, 0, 0, 0, 0⟩⟩
    ⟨fun j hj => by rcases below6 hj with rfl | rfl | rfl | rfl | rfl | rfl <;> exact Int.le_refl _, by show (0 : Int) + 0 + 0 + 0 + 0 + 0 + 0 + (n : Int) ≤ N; omega⟩ ⟨rfl, trivial⟩ ⟨.inl rfl, .inl rfl, trivial⟩ ?_
  rintro ⟨n, k, s⟩ ⟨lo, sum⟩
  simp only at lo sum
  have nn := sum_nn lo
  dsimp only [headF, headM]
  refine bselD (fun hgt => ?_) (fun hle => ?_)
  · have hn : 0 < n := by have : (n : Int) > 0 := hgt; omega
    have wn : IntKind.i64.wrap ((n : Int) - 1) = ((n - 1 : Nat) : Int) := by rw [wrap64_in (by omega) (by omega)]; omega
    have g : ShG 100 s := ⟨lo, by omega⟩
    repeat refine AJoin.plain ?_
    have h6 := dv_bd ts k (n := 6) (by omega)
    refine FC.x (next_x ts k 6 (by omega) hl) [0, 1] (fun v ev => ?_)
    rw [← ev] at h6
    clear ev
    obtain ⟨v, rfl⟩ : ∃ m : Nat, v = m := ⟨v.toNat, by omega⟩
    have hv : v < 6 := by omega
    have gv := g.le hv
    have lv := lo v hv
    have wv : IntKind.i64.wrap (s.get v + 1) = s.get v + 1 := wrap64_in (by omega) (by omega)
    have inv : XI N ⟨n - 1, k + 1, s.set v (IntKind.i64.wrap (s.get v + 1))⟩ := by
      refine ⟨fun j hj => ?_, ?_⟩
      · show 0 ≤ (s.set v _).get j
        rw [get_set hv hj]
        split
        · rw [wv]; omega
        · exact lo j hj
      · show sumTo (s.set v _) 6 + ((n - 1 : Nat) : Int) ≤ N
        rw [sum_set hv, wv]; omega
    rcases below6 hv with rfl | rfl | rfl | rfl | rfl | rfl <;>
    · refine And.intro ⟨by decide, by decide⟩ ?_
      refine And.intro ⟨by decide, by decide⟩ ?_
      exact ⟨_, ⟨inv, by show n - 1 < n; omega⟩, .id ⟨congrArg (int .i64) wn, trivial⟩ rfl ⟨.inl rfl, .inl rfl, trivial⟩ rfl⟩
  · have hn : n = 0 := by have : ¬ (n : Int) > 0 := hle; omega
    refine And.intro ⟨by decide, by decide⟩ ?_
    refine And.intro ⟨by decide, by decide⟩ ?_
    refine And.intro ⟨by decide, by decide⟩ ?_
    refine And.intro ⟨by decide, by decide⟩ ?_
    refine And.intro ⟨by decide, by decide⟩ ?_
    refine And.intro ⟨by decide, by decide⟩ ?_
    exact ⟨(s, k), ⟨lo, by show sumTo s 6 ≤ N; omega⟩, .id rfl ⟨.inl rfl, .inl rfl, trivial⟩⟩
end Go.Sx.T1
namespace Go.Sx.T1
open Go.Proofs
def sizeL : List Nat := (List.range 65).map fun k => 2 ^ k
set_option maxHeartbeats 3200000 in
set_option maxRecDepth 10000 in
theorem bits6_fc (s : S6) (g : ShG 100 s) : FC Try.prog 23 [s6S s] [] (int .i64 (sumTo s 6)) [] := by
  refine FC.one (FC.r mix Try.func23 ?_)
  have a0 := g.lo 0 (by omega); have a1 := g.lo 1 (by omega); have a2 := g.lo 2 (by omega); have a3 := g.lo 3 (by omega); have a4 := g.lo 4 (by omega); have a5 := g.lo 5 (by omega)
  have hs := g.sum
  simp only [sumTo] at hs
  have e : IntKind.i64.wrap (IntKind.i64.wrap (IntKind.i64.wrap (IntKind.i64.wrap (IntKind.i64.wrap (s.a + s.b) + s.c) + s.d) + s.e) + s.f) = sumTo s 6 := by
    show IntKind.i64.wrap (IntKind.i64.wrap (IntKind.i64.wrap (IntKind.i64.wrap (IntKind.i64.wrap (s.get 0 + s.get 1) + s.get 2) + s.get 3) + s.get 4) + s.get 5) = 0 + s.get 0 + s.get 1 + s.get 2 + s.get 3 + s.get 4 + s.get 5
    rw [wrap64_in (n := s.get 0 + s.get 1) (by omega) (by omega), wrap64_in (n := s.get 0 + s.get 1 + s.get 2) (by omega) (by omega), wrap64_in (n := s.get 0 + s.get 1 + s.get 2 + s.get 3) (by omega) (by omega), wrap64_in (n := s.get 0 + s.get 1 + s.get 2 + s.get 3 + s.get 4) (by omega) (by omega), wrap64_in (by omega) (by omega)]
    omega
  exact ⟨(), trivial, .id (congrArg (int .i64) e) trivial⟩
set_option maxHeartbeats 3200000 in
set_option maxRecDepth 10000 in
theorem one_fc (ts : List Int) (k : Nat) (n : Int) (hn : n < 9223372036854775808) (hl : ts.length ≤ 400) : ∃ b : Bool, FC Try.prog 14 [.o (.c (.p 0 0 0)), int .i64 n] [diceB ts k, diceL ts] (boo b) [diceB ts (k + 1), diceL ts] ∧ True := by
  refine FC.r mix Try.func14 ?_
  refine FC.x (next_x ts k n hn hl) [0, 1] (fun v ev => ?_)
  exact ⟨_, trivial, .id rfl ⟨.inl rfl, .inl rfl, trivial⟩⟩
def unitL (b : Nat) : List Int := (List.range b).map fun k => ((2 ^ k : Nat) : Int)
theorem unitL_len (b : Nat) : (unitL b).length = b := by simp [unitL]
theorem unitL_succ (b : Nat) : unitL (b + 1) = unitL b ++ [((2 ^ b : Nat) : Int)] := by simp [unitL, List.range_succ]
/-- masks that are one to one: sums of single bits -/
inductive Msk (b : Nat) : List Int → Prop where
  | unit : Msk b (unitL b)
  | xor {l : List Int} (h : Msk b l) (i k : Nat) (hi : i < b) (hk : k < b) (hne : i ≠ k) : Msk b (l.set i (bitI .xor .u64 (l.getD i 0) (l.getD k 0)))
theorem Msk.len {b : Nat} {l : List Int} (h : Msk b l) : l.length = b := by
  induction h with
  | unit => exact unitL_len b
  | xor _ _ _ _ _ _ ih => rw [List.length_set, ih]
theorem pow_u64 (i : Nat) (hi : i < 64) : IntKind.u64.wrap (1 * 2 ^ min (IntKind.u64.wrap (i : Int)).toNat IntKind.u64.bits) = ((2 ^ i : Nat) : Int) := by
  have : ∀ j : Fin 64, IntKind.u64.wrap (1 * 2 ^ min (j.val : Int).toNat IntKind.u64.bits) = ((2 ^ j.val : Nat) : Int) := by decide +kernel
  rw [show IntKind.u64.wrap (i : Int) = i from wrapU64_in (by omega) (by omega)]
  exact this ⟨i, hi⟩
structure KS where
  n : Nat
  k : Nat
  l : List Int
def mkM' (ts : List Int) (x : List Int × Nat) : Mem := [diceB ts x.2, diceL ts, u64s x.1 true]
set_option maxHeartbeats 3200000 in
set_option maxRecDepth 10000 in
theorem masks_fc (ts : List Int) (k b : Nat) (hl : ts.length ≤ 400) (hb : b ≤ 60) : ∃ x : List Int × Nat, FC Try.prog 24 [.o (.c (.p 0 0 0)), int .i64 b] [diceB ts k, diceL ts] (.o (.c (.s 2 0 x.1.length 1))) (mkM' ts x) ∧ Msk b x.1 := by
  refine FC.rj mix Try.func24 ?_
  refine ALoop.goN (X := Nat) (fun i => i ≤ b) (fun i => b - i) [0, 1] [0, 1] (fun i => [(5, .o (.c (.s 2 0 i 1))), (6, int .i64 i)])
    (fun i => [(2, ⟨.ints .u64 (unitL i), true⟩)]) 0 3 (Nat.zero_le _) (isAt.go [(2, .new 1)] ⟨rfl, rfl, trivial⟩ ⟨newI 1 rfl, trivial⟩) ?_
  intro i hi
  dsimp only [headF, headM]
  refine bselD (fun h => ?_) (fun h => ?_)
  · have h' : i < b := by have : (i : Int) < b := h; omega
    have wi : IntKind.i64.wrap ((i : Int) + 1) = ((i + 1 : Nat) : Int) := wrap64_in (by omega) (by omega)
    have hp := pow_u64 i (by omega)
    have hu : 0 ≤ IntKind.u64.wrap (i : Int) := by rw [wrapU64_in (by omega) (by omega)]; omega
    repeat refine AJoin.plain ?_
    repeat (first | refine And.intro (by kernel_rfl) ?_ | refine And.intro (by decide) ?_)
    refine And.intro hu ?_
    refine And.intro ⟨by show 0 + i ≤ (unitL i).length; rw [unitL_len]; omega, trivial⟩ ?_
    refine And.intro ⟨Nat.le_of_ble_eq_true rfl, trivial⟩ ?_
    refine And.intro (by show i + 1 ≤ 4294967296; omega) ?_
    repeat (first | refine And.intro (by kernel_rfl) ?_ | refine And.intro (by decide) ?_)
    refine ⟨i + 1, ⟨by omega, by show b - (i + 1) < b - i; omega⟩, isAt.go [(2, .to 4)] ⟨rfl, congrArg (int .i64) wi, trivial⟩ ⟨leB.ints_eq ?_ id, trivial⟩⟩
    show List.take i (List.drop 0 (unitL i)) ++ List.take 1 (List.drop 0 [IntKind.u64.wrap (1 * 2 ^ min (IntKind.u64.wrap (i : Int)).toNat IntKind.u64.bits)]) = unitL (i + 1)
    rw [hp, List.drop_zero, List.take_of_length_le (by rw [unitL_len]; omega), unitL_succ]; rfl
  · obtain rfl : i = b := by have : ¬ (i : Int) < b := h; omega
    have w3 : IntKind.i64.wrap (IntKind.i64.wrap (3 * (i : Int)) + 1) = 3 * i + 1 := by rw [wrap64_in (n := 3 * (i : Int)) (by omega) (by omega), wrap64_in (by omega) (by omega)]
    conv => whnf
    rw [w3]
    have hn := dv_bd ts k (n := 3 * (i : Int) + 1) (by omega)
    refine FC.x (next_x ts k (3 * (i : Int) + 1) (by omega) hl) [0, 1] (fun n en => ?_)
    rw [← en] at hn
    clear en
    obtain ⟨n, rfl⟩ : ∃ m : Nat, n = m := ⟨n.toNat, by omega⟩
    have hn2 : (n : Int) < 3 * i + 1 := hn.2
    clear hn
    refine ALoop.go (X := KS) (fun x => x.n ≤ 1000 ∧ Msk i x.l) (fun x => x.n) [0, 1, 5] [1] (fun x => [(7, int .i64 x.n)])
      (fun x => [(0, ⟨.box [.s 1 0 ts.length 1, .v (.int .i64 (min x.k ts.length : Nat))], true⟩), (2, ⟨.ints .u64 x.l, true⟩)]) ⟨n, k + 1, unitL i⟩ ⟨by show n ≤ 1000; omega, .unit⟩ ⟨rfl, trivial⟩ ⟨.inl rfl, .inl rfl, trivial⟩ ?_
    rintro ⟨n, k, l⟩ ⟨hn, hm⟩
    simp only at hn hm
    have ll := hm.len
    dsimp only [headF, headM]
    refine bselD (fun hgt => ?_) (fun hle => ?_)
    · refine bselD (fun hb1 => ?_) (fun hb1 => ?_)
      · have hn0 : 0 < n := by have : (n : Int) > 0 := hgt; omega
        have hi1 : 1 < i := by have : (i : Int) > 1 := hb1; omega
        have wn : IntKind.i64.wrap ((n : Int) - 1) = ((n - 1 : Nat) : Int) := by rw [wrap64_in (by omega) (by omega)]; omega
        repeat refine AJoin.plain ?_
        have d1 := dv_bd ts k (n := (i : Int)) (by omega)
        refine FC.x (next_x ts k (i : Int) (by omega) hl) [0, 1] (fun u eu => ?_)
        rw [← eu] at d1
        clear eu
        obtain ⟨u, rfl⟩ : ∃ m : Nat, u = m := ⟨u.toNat, by omega⟩
        have wi1 : IntKind.i64.wrap ((i : Int) - 1) = (i : Int) - 1 := wrap64_in (by omega) (by omega)
        conv => whnf
        rw [wi1]
        have d2 := dv_bd ts (k + 1) (n := (i : Int) - 1) (by omega)
        refine FC.x (next_x ts (k + 1) ((i : Int) - 1) (by omega) hl) [0, 1] (fun v ev => ?_)
        rw [← ev] at d2
        clear ev
        obtain ⟨v, rfl⟩ : ∃ m : Nat, v = m := ⟨v.toNat, by omega⟩
        have w1 : IntKind.i64.wrap ((u : Int) + 1) = ((u + 1 : Nat) : Int) := wrap64_in (by omega) (by omega)
        have w2 : IntKind.i64.wrap (((u + 1 : Nat) : Int) + v) = ((u + 1 + v : Nat) : Int) := wrap64_in (by omega) (by omega)
        have w3 : ((u + 1 + v : Nat) : Int).tmod (i : Int) = (((u + 1 + v) % i : Nat) : Int) := rfl
        have hmod : (u + 1 + v) % i < i := Nat.mod_lt _ (by omega)
        have hne : u ≠ (u + 1 + v) % i := by
          rcases Nat.lt_or_ge (u + 1 + v) i with h | h
          · rw [Nat.mod_eq_of_lt h]; omega
          · rw [Nat.mod_eq_sub_mod h, Nat.mod_eq_of_lt (by omega)]; omega
        conv => whnf
        rw [w1, w2, w3]
        generalize (u + 1 + v) % i = q at hmod hne
        refine And.intro (by omega) ?_
        repeat (first | refine And.intro (by kernel_rfl) ?_ | refine And.intro (by decide) ?_)
        refine And.intro ⟨by omega, by show (u : Int) < (i : Int); omega⟩ ?_
        refine And.intro (by show 0 + u < l.length; omega) ?_
        repeat (first | refine And.intro (by kernel_rfl) ?_ | refine And.intro (by decide) ?_)
        refine And.intro ⟨by omega, by show (q : Int) < (i : Int); omega⟩ ?_
        refine And.intro (by show 0 + q < l.length; omega) ?_
        repeat (first | refine And.intro (by kernel_rfl) ?_ | refine And.intro (by decide) ?_)
        refine And.intro ⟨by omega, by show (u : Int) < (i : Int); omega⟩ ?_
        refine And.intro (by show 0 + u < l.length; omega) ?_
        repeat (first | refine And.intro (by kernel_rfl) ?_ | refine And.intro (by decide) ?_)
        refine ⟨⟨n - 1, k + 1 + 1, l.set u (bitI .xor .u64 (l.getD u 0) (l.getD q 0))⟩, ⟨⟨by show n - 1 ≤ 1000; omega, .xor hm u q (by omega) hmod hne⟩, by show n - 1 < n; omega⟩, .id ⟨congrArg (int .i64) wn, trivial⟩ rfl ⟨.inl rfl, leB.ints_eq ?_ id, trivial⟩ rfl⟩
        show l.set (0 + u) (bitI .xor .u64 (l.getD (0 + u) 0) (l.getD (0 + q) 0)) = _
        rw [Nat.zero_add, Nat.zero_add]
      · exact ⟨(l, k), hm, .id (congrArg (fun n => SV.o (.c (.s 2 0 n 1))) ll.symm) ⟨.inl rfl, .inl rfl, .inl rfl, trivial⟩⟩
    · exact ⟨(l, k), hm, .id (congrArg (fun n => SV.o (.c (.s 2 0 n 1))) ll.symm) ⟨.inl rfl, .inl rfl, .inl rfl, trivial⟩⟩
end Go.Sx.T1
namespace Go.Sx.T1
open Go.Proofs
/-- a map that was made; b the bits of its shape -/
structure MapG (b : Nat) (m : MapR) : Prop where
  sh : ShG 12 m.s
  sum : sumTo m.s 6 = b
  msk : Msk b m.M
  lo : 0 ≤ m.lo ∧ m.lo ≤ ((2 ^ b : Nat) : Int)
  hi : m.lo ≤ m.hi ∧ m.hi ≤ 1048576
  fit : m.hi - m.lo + ((2 ^ b : Nat) : Int) ≤ 1048576
theorem pow_i64 (b : Nat) (hb : b ≤ 12) : IntKind.i64.wrap (1 * 2 ^ min (IntKind.u64.wrap (b : Int)).toNat IntKind.i64.bits) = ((2 ^ b : Nat) : Int) ∧ 2 ^ b ≤ 4096 ∧ 1 ≤ 2 ^ b := by
  have : ∀ j : Fin 13, IntKind.i64.wrap (1 * 2 ^ min (j.val : Int).toNat IntKind.i64.bits) = ((2 ^ j.val : Nat) : Int) ∧ 2 ^ j.val ≤ 4096 ∧ 1 ≤ 2 ^ j.val := by decide +kernel
  rw [show IntKind.u64.wrap (b : Int) = b from wrapU64_in (by omega) (by omega)]
  exact this ⟨b, by omega⟩
def mapM (ts : List Int) (x : MapR × Nat) : Mem := [diceB ts x.2, diceL ts, u64s x.1.M true]
set_option maxHeartbeats 3200000 in
set_option maxRecDepth 10000 in
theorem map_fc (ts : List Int) (k : Nat) (s : S6) (b : Nat) (hl : ts.length ≤ 400) (g : ShG 12 s) (hb : sumTo s 6 = b) : ∃ x : MapR × Nat, FC Try.prog 10 [.o (.c (.p 0 0 0)), s6S s] [diceB ts k, diceL ts] (mS x.1 2) (mapM ts x) ∧ MapG b x.1 := by
  have g100 : ShG 100 s := ⟨g.lo, by have := g.sum; omega⟩
  have hb12 : b ≤ 12 := by have := g.sum; omega
  have bits : FC Try.prog 23 [s6S s] [] (int .i64 b) [] := by have := bits6_fc s g100; rwa [hb] at this
  obtain ⟨p1, p2, p3⟩ := pow_i64 b hb12
  have hu : 0 ≤ IntKind.u64.wrap (b : Int) := by rw [wrapU64_in (by omega) (by omega)]; omega
  refine FC.r mix Try.func10 ?_
  refine FC.u bits [] ?_
  repeat (first | refine And.intro (by kernel_rfl) ?_ | refine And.intro (by decide) ?_)
  refine And.intro hu ?_
  conv => whnf
  rw [p1]
  generalize hz : 2 ^ b = z at p2 p3
  refine FC.u bits [] ?_
  refine FC.x (masks_fc ts k b hl (by omega)) [0, 1] (fun ⟨M, k1⟩ hM => ?_)
  simp only at hM
  repeat (first | refine And.intro (by kernel_rfl) ?_ | refine And.intro (by decide) ?_)
  have wz : IntKind.i64.wrap ((z : Int) + 1) = (z : Int) + 1 := wrap64_in (by omega) (by omega)
  conv => whnf
  rw [wz]
  have d1 := dv_bd ts k1 (n := (z : Int) + 1) (by omega)
  refine FC.x (next_x ts k1 ((z : Int) + 1) (by omega) hl) [0, 1] (fun lo elo => ?_)
  rw [← elo] at d1
  clear elo
  have d2 := dv_bd ts (k1 + 1) (n := 100) (by omega)
  refine FC.x (next_x ts (k1 + 1) 100 (by omega) hl) [0, 1] (fun v ev => ?_)
  rw [← ev] at d2
  clear ev
  have d3 := dv_bd ts (k1 + 1 + 1) (n := 524288) (by omega)
  refine FC.x (next_x ts (k1 + 1 + 1) 524288 (by omega) hl) [0, 1] (fun w ew => ?_)
  rw [← ew] at d3
  clear ew
  have d4 := dv_bd ts (k1 + 1 + 1 + 1) (n := 5) (by omega)
  refine FC.x (next_x ts (k1 + 1 + 1 + 1) 5 (by omega) hl) [0, 1] (fun q eq => ?_)
  rw [← eq] at d4
  clear eq
  obtain ⟨q, rfl⟩ : ∃ m : Nat, q = m := ⟨q.toNat, by omega⟩
  have w1 : IntKind.i64.wrap (1048576 - (z : Int)) = 1048576 - z := wrap64_in (by omega) (by omega)
  have w2 : IntKind.i64.wrap (1048576 - (z : Int) - lo) = 1048576 - z - lo := wrap64_in (by omega) (by omega)
  refine And.intro ⟨by omega, by show (q : Int) < 5; omega⟩ ?_
  refine And.intro (by show 0 + q < 5; omega) ?_
  repeat (first | refine And.intro (by kernel_rfl) ?_ | refine And.intro (by decide) ?_)
  have hq : ∃ h : Int, IntKind.i64.wrap (lo + ([0, 1, v, IntKind.i64.wrap (IntKind.i64.wrap (1048576 - (z : Int)) - lo), w] : List Int).getD (0 + q) 0) = lo + h ∧ 0 ≤ h ∧ h + z ≤ 1048576 ∧ lo + h ≤ 1048576 := by
    rw [w1, w2, Nat.zero_add]
    rcases (show q = 0 ∨ q = 1 ∨ q = 2 ∨ q = 3 ∨ q = 4 by omega) with rfl | rfl | rfl | rfl | rfl
    · exact ⟨0, wrap64_in (by show -9223372036854775808 ≤ lo + 0; omega) (by show lo + 0 ≤ _; omega), by omega, by omega, by omega⟩
    · exact ⟨1, wrap64_in (by show -9223372036854775808 ≤ lo + 1; omega) (by show lo + 1 ≤ _; omega), by omega, by omega, by omega⟩
    · exact ⟨v, wrap64_in (by show -9223372036854775808 ≤ lo + v; omega) (by show lo + v ≤ _; omega), by omega, by omega, by omega⟩
    · exact ⟨1048576 - z - lo, wrap64_in (by show -9223372036854775808 ≤ lo + (1048576 - z - lo); omega) (by show lo + (1048576 - z - lo) ≤ _; omega), by omega, by omega, by omega⟩
    · exact ⟨w, wrap64_in (by show -9223372036854775808 ≤ lo + w; omega) (by show lo + w ≤ _; omega), by omega, by omega, by omega⟩
  obtain ⟨h, eh, h1, h2, h3⟩ := hq
  refine ⟨(⟨s, M, lo, lo + h⟩, k1 + 1 + 1 + 1 + 1), ⟨g, hb, hM, ?_, ⟨by simp only; omega, by simp only; omega⟩, ?_⟩, isEnd.go [(2, .to 4)] ?_ ⟨.inl rfl, .inl rfl, .inl rfl, trivial⟩⟩
  · rw [hz]; exact ⟨d1.1, by simp only; omega⟩
  · rw [hz]; simp only; omega
  · show SV.o (.a [.v (.int .i64 s.a), .v (.int .i64 s.b), .v (.int .i64 s.c), .v (.int .i64 s.d), .v (.int .i64 s.e), .v (.int .i64 s.f), .s 4 0 M.length 1, .v (.int .i64 lo), .v (.int .i64 (IntKind.i64.wrap (lo + ([0, 1, v, IntKind.i64.wrap (IntKind.i64.wrap (1048576 - (z : Int)) - lo), w] : List Int).getD (0 + q) 0)))]) = _
    rw [eh]; rfl
end Go.Sx.T1
namespace Go.Sx.T1
open Go.Proofs
def oddM (ts : List Int) (m : MapR) (x : MapR × Nat) : Mem := [diceB ts x.2, diceL ts, u64s m.M false, u64s x.1.M true]
set_option maxHeartbeats 3200000 in
set_option maxRecDepth 10000 in
theorem odd_fc (ts : List Int) (k : Nat) (m : MapR) (hl : ts.length ≤ 400) (hM : m.M.length ≤ 1000) : ∃ x : MapR × Nat, FC Try.prog 15 [.o (.c (.p 0 0 0)), mS m 2] [diceB ts k, diceL ts, u64s m.M false] (mS x.1 3) (oddM ts m x) ∧ x.1.M.length ≤ m.M.length + 1 := by
  refine FC.r mix Try.func15 ?_
  refine And.intro ⟨by show 0 + m.M.length ≤ m.M.length; omega, trivial⟩ ?_
  refine And.intro (by show 0 + m.M.length ≤ 4294967296; omega) ?_
  repeat (first | refine And.intro (by kernel_rfl) ?_ | refine And.intro (by decide) ?_)
  have eM : List.take m.M.length (List.drop 0 m.M) = m.M := by simp
  conv => whnf
  rw [eM, Nat.zero_add]
  refine FC.x (next_x ts k 8 (by omega) hl) [0, 1] (fun q _ => ?_)
  refine bselE (fun h0 => ?_) (fun h0 => ?_)
  · refine FC.x (next_x ts (k + 1) 3 (by omega) hl) [0, 1] (fun v _ => ?_)
    repeat (first | refine And.intro (by kernel_rfl) ?_ | refine And.intro (by decide) ?_)
    exact ⟨({ m with s := { m.s with e := IntKind.i64.wrap (m.s.e + IntKind.i64.wrap (v - 1)) } }, k + 1 + 1), by simp, isEnd.go [(3, .to 5)] rfl ⟨.inl rfl, .inl rfl, .inl rfl, .inl rfl, trivial⟩⟩
  refine bselE (fun h0 => ?_) (fun h0 => ?_)
  · refine And.intro ⟨by show 0 + m.M.length ≤ m.M.length; omega, trivial⟩ ?_
    refine And.intro ⟨Nat.le_of_ble_eq_true rfl, trivial⟩ ?_
    refine And.intro (by show m.M.length + 1 ≤ 4294967296; omega) ?_
    repeat (first | refine And.intro (by kernel_rfl) ?_ | refine And.intro (by decide) ?_)
    refine ⟨({ m with M := m.M ++ [1] }, k + 1), by simp, isEnd.go [(3, .to 7)] ?_ ⟨.inl rfl, .inl rfl, .inl rfl, leB.ints_eq ?_ id, trivial⟩⟩
    · show SV.o (.a [.v (.int .i64 m.s.a), .v (.int .i64 m.s.b), .v (.int .i64 m.s.c), .v (.int .i64 m.s.d), .v (.int .i64 m.s.e), .v (.int .i64 m.s.f), .s 7 0 (m.M.length + 1) 1, .v (.int .i64 m.lo), .v (.int .i64 m.hi)]) = SV.o (.a [.v (.int .i64 m.s.a), .v (.int .i64 m.s.b), .v (.int .i64 m.s.c), .v (.int .i64 m.s.d), .v (.int .i64 m.s.e), .v (.int .i64 m.s.f), .s 7 0 (m.M ++ [1]).length 1, .v (.int .i64 m.lo), .v (.int .i64 m.hi)])
      rw [List.length_append]; rfl
    · show List.take m.M.length (List.drop 0 m.M) ++ List.take 1 (List.drop 0 [1]) = m.M ++ [1]
      rw [eM]; rfl
  refine bselE (fun h0 => ?_) (fun h0 => ?_)
  · have d := dv_bd ts (k + 1) (n := 4) (by omega)
    refine FC.x (next_x ts (k + 1) 4 (by omega) hl) [0, 1] (fun v ev => ?_)
    rw [← ev] at d
    clear ev
    obtain ⟨v, rfl⟩ : ∃ m : Nat, v = m := ⟨v.toNat, by omega⟩
    refine And.intro ⟨by omega, by show (v : Int) < 4; omega⟩ ?_
    refine And.intro (by show 0 + v < 4; omega) ?_
    repeat (first | refine And.intro (by kernel_rfl) ?_ | refine And.intro (by decide) ?_)
    exact ⟨({ m with lo := ([-1, IntKind.i64.wrap (m.hi + 1), 4096, 1048577] : List Int).getD (0 + v) 0 }, k + 1 + 1), by simp, isEnd.go [(3, .to 5)] rfl ⟨.inl rfl, .inl rfl, .inl rfl, .inl rfl, trivial⟩⟩
  refine bselE (fun h0 => ?_) (fun h0 => ?_)
  · have d := dv_bd ts (k + 1) (n := 3) (by omega)
    refine FC.x (next_x ts (k + 1) 3 (by omega) hl) [0, 1] (fun v ev => ?_)
    rw [← ev] at d
    clear ev
    obtain ⟨v, rfl⟩ : ∃ m : Nat, v = m := ⟨v.toNat, by omega⟩
    refine And.intro ⟨by omega, by show (v : Int) < 3; omega⟩ ?_
    refine And.intro (by show 0 + v < 3; omega) ?_
    repeat (first | refine And.intro (by kernel_rfl) ?_ | refine And.intro (by decide) ?_)
    exact ⟨({ m with hi := ([-1, 1048576, 1048577] : List Int).getD (0 + v) 0 }, k + 1 + 1), by simp, isEnd.go [(3, .to 5)] rfl ⟨.inl rfl, .inl rfl, .inl rfl, .inl rfl, trivial⟩⟩
  refine bselE (fun h0 => ?_) (fun h0 => ?_)
  · refine bselD (fun hn => ?_) (fun hn => ?_)
    · have hn' : 0 < m.M.length := by have : (m.M.length : Int) > 0 := hn; omega
      have d := dv_bd ts (k + 1) (n := (m.M.length : Int)) (by omega)
      refine FC.x (next_x ts (k + 1) (m.M.length : Int) (by omega) hl) [0, 1] (fun v ev => ?_)
      rw [← ev] at d
      clear ev
      obtain ⟨v, rfl⟩ : ∃ m : Nat, v = m := ⟨v.toNat, by omega⟩
      have d2 := dv_bd ts (k + 1 + 1) (n := 4) (by omega)
      refine FC.x (next_x ts (k + 1 + 1) 4 (by omega) hl) [0, 1] (fun u eu => ?_)
      rw [← eu] at d2
      clear eu
      obtain ⟨u, rfl⟩ : ∃ m : Nat, u = m := ⟨u.toNat, by omega⟩
      refine And.intro ⟨by omega, by show (u : Int) < 4; omega⟩ ?_
      refine And.intro (by show 0 + u < 4; omega) ?_
      refine And.intro ⟨by omega, by omega⟩ ?_
      refine And.intro (by show 0 + v < m.M.length; omega) ?_
      repeat (first | refine And.intro (by kernel_rfl) ?_ | refine And.intro (by decide) ?_)
      refine ⟨({ m with M := m.M.set (0 + v) (([0, 1, 8192, 9223372036854775808] : List Int).getD (0 + u) 0) }, k + 1 + 1 + 1), by simp, isEnd.go [(3, .to 5)] ?_ ⟨.inl rfl, .inl rfl, .inl rfl, .inl rfl, trivial⟩⟩
      show SV.o (.a [.v (.int .i64 m.s.a), .v (.int .i64 m.s.b), .v (.int .i64 m.s.c), .v (.int .i64 m.s.d), .v (.int .i64 m.s.e), .v (.int .i64 m.s.f), .s 5 0 (m.M.length) 1, .v (.int .i64 m.lo), .v (.int .i64 m.hi)]) = SV.o (.a [.v (.int .i64 m.s.a), .v (.int .i64 m.s.b), .v (.int .i64 m.s.c), .v (.int .i64 m.s.d), .v (.int .i64 m.s.e), .v (.int .i64 m.s.f), .s 5 0 (m.M.set (0 + v) (([0, 1, 8192, 9223372036854775808] : List Int).getD (0 + u) 0)).length 1, .v (.int .i64 m.lo), .v (.int .i64 m.hi)])
      rw [List.length_set]
    · exact ⟨(m, k + 1), by simp, isEnd.go [(3, .to 5)] rfl ⟨.inl rfl, .inl rfl, .inl rfl, .inl rfl, trivial⟩⟩
  refine bselE (fun h0 => ?_) (fun h0 => ?_)
  · refine bselD (fun hn => ?_) (fun hn => ?_)
    · have hn' : 1 < m.M.length := by have : (m.M.length : Int) > 1 := hn; omega
      have d := dv_bd ts (k + 1) (n := (m.M.length : Int)) (by omega)
      refine FC.x (next_x ts (k + 1) (m.M.length : Int) (by omega) hl) [0, 1] (fun v ev => ?_)
      rw [← ev] at d
      clear ev
      obtain ⟨v, rfl⟩ : ∃ m : Nat, v = m := ⟨v.toNat, by omega⟩
      have d2 := dv_bd ts (k + 1 + 1) (n := (m.M.length : Int)) (by omega)
      refine FC.x (next_x ts (k + 1 + 1) (m.M.length : Int) (by omega) hl) [0, 1] (fun u eu => ?_)
      rw [← eu] at d2
      clear eu
      obtain ⟨u, rfl⟩ : ∃ m : Nat, u = m := ⟨u.toNat, by omega⟩
      refine And.intro ⟨by omega, by omega⟩ ?_
      refine And.intro (by show 0 + u < m.M.length; omega) ?_
      refine And.intro ⟨by omega, by omega⟩ ?_
      refine And.intro (by show 0 + v < m.M.length; omega) ?_
      repeat (first | refine And.intro (by kernel_rfl) ?_ | refine And.intro (by decide) ?_)
      refine ⟨({ m with M := m.M.set (0 + v) (m.M.getD (0 + u) 0) }, k + 1 + 1 + 1), by simp, isEnd.go [(3, .to 5)] ?_ ⟨.inl rfl, .inl rfl, .inl rfl, .inl rfl, trivial⟩⟩
      show SV.o (.a [.v (.int .i64 m.s.a), .v (.int .i64 m.s.b), .v (.int .i64 m.s.c), .v (.int .i64 m.s.d), .v (.int .i64 m.s.e), .v (.int .i64 m.s.f), .s 5 0 (m.M.length) 1, .v (.int .i64 m.lo), .v (.int .i64 m.hi)]) = SV.o (.a [.v (.int .i64 m.s.a), .v (.int .i64 m.s.b), .v (.int .i64 m.s.c), .v (.int .i64 m.s.d), .v (.int .i64 m.s.e), .v (.int .i64 m.s.f), .s 5 0 (m.M.set (0 + v) (m.M.getD (0 + u) 0)).length 1, .v (.int .i64 m.lo), .v (.int .i64 m.hi)])
      rw [List.length_set]
    · exact ⟨(m, k + 1), by simp, isEnd.go [(3, .to 5)] rfl ⟨.inl rfl, .inl rfl, .inl rfl, .inl rfl, trivial⟩⟩
  refine bselE (fun h0 => ?_) (fun h0 => ?_)
  · exact ⟨({ m with s := { m.s with d := -1 } }, k + 1), by simp, isEnd.go [(3, .to 5)] rfl ⟨.inl rfl, .inl rfl, .inl rfl, .inl rfl, trivial⟩⟩
  · exact ⟨({ m with s := { m.s with f := IntKind.i64.wrap (m.s.f + 12) } }, k + 1), by simp, isEnd.go [(3, .to 5)] rfl ⟨.inl rfl, .inl rfl, .inl rfl, .inl rfl, trivial⟩⟩
end Go.Sx.T1
namespace Go.Sx.T1
open Go.Proofs
theorem encF_len (m : MapR) : (encF m).1.length ≤ 2 + m.M.length := by
  unfold encF
  repeat' split
  all_goals simp
  all_goals omega
def m12 : MapR := ⟨⟨0, 0, 0, 0, 0, 0⟩, [], 1, 2⟩
theorem m12_ok : ShV m12.s := ⟨fun j hj => by rcases below6 hj with rfl | rfl | rfl | rfl | rfl | rfl <;> decide, by decide⟩
theorem enc12 : encF m12 = ([5548434740920451072, 8589934593], 0) := by
  rw [encF_0 m12_ok (by decide) ⟨by decide, by decide, by decide, by decide⟩]
  decide +kernel
theorem encode12 : FC Try.prog 12 [mS m12 0] [u64s [] false] (encS ([5548434740920451072, 8589934593], 0)) (encM m12 ([5548434740920451072, 8589934593], 0)) := by
  obtain ⟨p, h, e⟩ := encode_fc m12
  rw [enc12] at e; subst e; exact h
set_option maxHeartbeats 3200000 in
set_option maxRecDepth 10000 in
theorem awake_fc : FC Try.prog 8 [] [] (boo true) [] := by
  refine FC.one (FC.r mix Try.func8 ?_)
  refine acall.nilAt 0 6 1 (.ints .u64 []) (FC.u encode12 [0] ?_)
  repeat (first | refine And.intro (by kernel_rfl) ?_ | refine And.intro (by decide) ?_)
  exact ⟨(), trivial, .id rfl trivial⟩
theorem bb {x y : Bool} {P : Prop} (hx : x = true ↔ P) (hy : y = true ↔ P) : y = x := Bool.eq_iff_iff.2 (hy.trans hx.symm)
theorem bneI (a : Int) : (a != a) = false := by simp
theorem bneB (a : Bool) : (a != a) = false := by simp
end Go.Sx.T1
namespace Go.Sx.T1
open Go.Proofs
def fld (r : Int) (i : Nat) : Int := IntKind.i64.wrap (bitI .and .u64 (r.fdiv (2 ^ (4 * i))) 15)
def cntF (r : Int) : Int := IntKind.i64.wrap (bitI .and .u64 (r.fdiv (2 ^ min (Int.toNat 24) IntKind.u64.bits)) 255)
def lowF (r : Int) : Int := IntKind.i64.wrap (bitI .and .u64 r 4294967295)
def highF (r : Int) : Int := IntKind.i64.wrap (r.fdiv (2 ^ min (Int.toNat 32) IntKind.u64.bits))
def shF (r : Int) : S6 := ⟨fld r 0, fld r 1, fld r 2, fld r 3, fld r 4, fld r 5⟩
def topF (r : Int) : Int := r.fdiv (2 ^ min (Int.toNat 32) IntKind.u64.bits)
def U64 (R : List Int) : Prop := ∀ i, 0 ≤ R.getD i 0 ∧ R.getD i 0 < 18446744073709551616
/-- which map is read -/
inductive Dec (R : List Int) : MapR × Int → Prop where
  | short (h : R.length < 2) : Dec R (zM, 11)
  | form (h : ¬ R.length < 2) (h1 : topF (R.getD 0 0) ≠ 1291845632) : Dec R (zM, 12)
  | shape (h : ¬ R.length < 2) (h1 : topF (R.getD 0 0) = 1291845632) (h2 : ¬ ShV (shF (R.getD 0 0))) : Dec R (zM, 1)
  | size (h : ¬ R.length < 2) (h1 : topF (R.getD 0 0) = 1291845632) (h2 : ShV (shF (R.getD 0 0))) (h3 : cntF (R.getD 0 0) > 12 ∨ (R.length : Int) ≠ 2 + cntF (R.getD 0 0)) : Dec R (zM, 7)
  | lim (h : ¬ R.length < 2) (h1 : topF (R.getD 0 0) = 1291845632) (h2 : ShV (shF (R.getD 0 0))) (h3 : ¬ cntF (R.getD 0 0) > 12) (h4 : (R.length : Int) = 2 + cntF (R.getD 0 0)) (h5 : ¬ LimV ⟨shF (R.getD 0 0), [], lowF (R.getD 1 0), highF (R.getD 1 0)⟩) : Dec R (zM, 2)
  | ok (h : ¬ R.length < 2) (h1 : topF (R.getD 0 0) = 1291845632) (h2 : ShV (shF (R.getD 0 0))) (h3 : ¬ cntF (R.getD 0 0) > 12) (h4 : (R.length : Int) = 2 + cntF (R.getD 0 0)) (h5 : LimV ⟨shF (R.getD 0 0), [], lowF (R.getD 1 0), highF (R.getD 1 0)⟩) : Dec R (⟨shF (R.getD 0 0), R.drop 2, lowF (R.getD 1 0), highF (R.getD 1 0)⟩, 0)
theorem Dec.uniq {R : List Int} {p q : MapR × Int} (hp : Dec R p) (hq : Dec R q) : p = q := by
  cases hp <;> cases hq <;> first | rfl | (exfalso; first | contradiction | omega)
def decS (p : MapR × Int) : SV := .t [.a (mC p.1 1), .c (.v (.int .i64 p.2))]
def decM (R : List Int) (p : MapR × Int) : Mem := [u64s R false, u64s p.1.M true]
set_option maxRecDepth 10000 in
theorem cloneU (xs : List Int) (off n : Nat) (hn : off + n ≤ xs.length) (h32 : xs.length ≤ 4294967296) :
    FC Try.prog 30 [.o (.c (.s 0 off n 1))] [u64s xs false] (.o (.c (.s 1 0 n 1))) [u64s xs false, u64s ((xs.drop off).take n) true] := by
  refine FC.nil3 (fun h0 => ?_) (fun h0 a cap => ?_) (fun k hk => ?_)
  · refine FC.one (FC.r mix Try.func30 ?_)
    subst h0
    exact ⟨(), trivial, isEnd.go [(1, .new 1)] rfl ⟨.inl rfl, newI 1 rfl, trivial⟩⟩
  · refine FC.one (FC.r mix Try.func30 ?_)
    subst h0
    refine And.intro (by decide) ?_
    exact ⟨(), trivial, .id rfl ⟨.inl rfl, leB.empty rfl rfl rfl rfl id, trivial⟩⟩
  · refine FC.one (FC.r mix Try.func30 ?_)
    subst hk
    refine And.intro ⟨by show off + (k + 1) ≤ xs.length; omega, trivial⟩ ?_
    refine And.intro (by omega) ?_
    exact ⟨(), trivial, .id (congrArg (fun n => SV.o (.c (.s 1 0 n 1))) (Nat.zero_add (k + 1))) ⟨.inl rfl, .inl rfl, trivial⟩⟩
def sTo (r : Int) (i : Nat) : S6 := ⟨if 0 < i then fld r 0 else 0, if 1 < i then fld r 1 else 0, if 2 < i then fld r 2 else 0, if 3 < i then fld r 3 else 0, if 4 < i then fld r 4 else 0, if 5 < i then fld r 5 else 0⟩
def zB (s : S6) : List C := [.v (.int .i64 s.a), .v (.int .i64 s.b), .v (.int .i64 s.c), .v (.int .i64 s.d), .v (.int .i64 s.e), .v (.int .i64 s.f), .v (.slice none 0 0), .v (.int .i64 0), .v (.int .i64 0)]
/-- the two tests of the form are one -/
theorem top_iff {r : Int} (h : 0 ≤ r ∧ r < 18446744073709551616) : topF r = 1291845632 ↔ (r.fdiv (2 ^ min (Int.toNat 56) IntKind.u64.bits) = 77 ∧ bitI .and .u64 (r.fdiv (2 ^ min (Int.toNat 32) IntKind.u64.bits)) 16777215 = 0) := by
  obtain ⟨n, rfl⟩ : ∃ n : Nat, r = n := ⟨r.toNat, by omega⟩
  have hn : n < 18446744073709551616 := by omega
  have e1 : ((n : Int).fdiv (2 ^ min (Int.toNat 32) IntKind.u64.bits)) = ((n / 4294967296 : Nat) : Int) := fdiv_nat n 32
  have e2 : ((n : Int).fdiv (2 ^ min (Int.toNat 56) IntKind.u64.bits)) = ((n / 72057594037927936 : Nat) : Int) := fdiv_nat n 56
  have e3 : bitI .and .u64 ((n / 4294967296 : Nat) : Int) 16777215 = ((n / 4294967296 % 16777216 : Nat) : Int) := by
    have := and_u64 (a := n / 4294967296) (b := 16777215) (by omega) (by omega)
    rw [show (16777215 : Nat) = 2 ^ 24 - 1 from rfl, and_mask] at this
    exact this
  unfold topF
  rw [e1, e2, e3]
  omega
theorem cnt_bd {r : Int} (h : 0 ≤ r ∧ r < 18446744073709551616) : 0 ≤ cntF r ∧ cntF r ≤ 255 := by
  obtain ⟨n, rfl⟩ : ∃ n : Nat, r = n := ⟨r.toNat, by omega⟩
  have e1 : ((n : Int).fdiv (2 ^ min (Int.toNat 24) IntKind.u64.bits)) = ((n / 16777216 : Nat) : Int) := fdiv_nat n 24
  have e3 : bitI .and .u64 ((n / 16777216 : Nat) : Int) 255 = ((n / 16777216 % 256 : Nat) : Int) := by
    have := and_u64 (a := n / 16777216) (b := 255) (by omega) (by omega)
    rw [show (255 : Nat) = 2 ^ 8 - 1 from rfl, and_mask] at this
    exact this
  unfold cntF
  rw [e1, e3, wrap64_in (by omega) (by omega)]
  omega
set_option maxHeartbeats 3200000 in
set_option maxRecDepth 10000 in
theorem decode_fc (R : List Int) (hU : U64 R) (h32 : R.length ≤ 4294967296) : ∃ p : MapR × Int, FC Try.prog 21 [.o (.c (.s 0 0 R.length 1))] [u64s R false] (decS p) (decM R p) ∧ Dec R p := by
  refine FC.rj mix Try.func21 ?_
  refine bselD (fun h2 => ?_) (fun h2 => ?_)
  · exact ⟨(zM, 11), .short (by omega), isEnd.go [(1, .new 1)] rfl ⟨.inl rfl, newI 1 rfl, trivial⟩⟩
  have h2' : ¬ R.length < 2 := by omega
  have hr := hU 0
  have nform := Dec.form (R := R) h2'
  have nshape := Dec.shape (R := R) h2'
  have nsize := Dec.size (R := R) h2'
  have nlim := Dec.lim (R := R) h2'
  have nok := Dec.ok (R := R) h2'
  repeat refine AJoin.plain ?_
  refine And.intro ⟨Int.le_refl 0, by omega⟩ ?_
  refine And.intro (by show 0 + 0 < R.length; omega) ?_
  conv => whnf
  generalize hr0 : R.getD (0 + Int.toNat 0) 0 = r
  have hr1 : R.getD 0 0 = r := hr0
  rw [hr1] at hr nform nshape nsize nlim nok
  clear hr0 hr1
  have tf := top_iff hr
  repeat refine AJoin.plain ?_
  repeat (first | refine And.intro (by kernel_rfl) ?_ | refine And.intro (by decide) ?_)
  refine bselN (fun c1 => ?_) (fun c1 => ?_)
  · exact ⟨(zM, 12), nform fun h => c1 (tf.1 h).1, isEnd.go [(1, .new 1)] rfl ⟨.inl rfl, newI 1 rfl, trivial⟩⟩
  repeat (first | refine And.intro (by kernel_rfl) ?_ | refine And.intro (by decide) ?_)
  refine bselN (fun c2 => ?_) (fun c2 => ?_)
  · exact ⟨(zM, 12), nform fun h => c2 (tf.1 h).2, isEnd.go [(1, .new 1)] rfl ⟨.inl rfl, newI 1 rfl, trivial⟩⟩
  have top := tf.2 ⟨c1, c2⟩
  clear c1 c2 nform tf
  repeat refine AJoin.plain ?_
  refine FC.u rwidths_b [2] ?_
  refine ALoop.go (X := Nat) (fun i => i ≤ 6) (fun i => 6 - i) [0, 2, 4, 5, 27, 28] [0, 1, 3] (fun i => [(29, int .i64 i)])
    (fun i => [(2, ⟨.box (zB (sTo r i)), true⟩)]) 0 (Nat.zero_le _) ⟨rfl, trivial⟩ ⟨.inl rfl, trivial⟩ ?_
  intro i hi
  dsimp only [headF, headM]
  refine bselD (fun h => ?_) (fun h => ?_)
  · have h' : i < 6 := by have : (i : Int) < 6 := h; omega
    have wi : IntKind.i64.wrap ((i : Int) + 1) = ((i + 1 : Nat) : Int) := wrap64_in (by omega) (by omega)
    have es := sh6_eq h'
    have ef : IntKind.i64.wrap (bitI .and .u64 (r.fdiv (2 ^ min (IntKind.i64.wrap (4 * (i : Int))).toNat IntKind.u64.bits)) 15) = fld r i := by rw [es]; rfl
    have h4 : 0 ≤ IntKind.i64.wrap (4 * (i : Int)) := by rw [wrap64_in (by omega) (by omega)]; omega
    have blk : (some ⟨.box (repl (zB (sTo r i)) (0 + i) [.v (.int .i64 (IntKind.i64.wrap (bitI .and .u64 (r.fdiv (2 ^ min (IntKind.i64.wrap (4 * (i : Int))).toNat IntKind.u64.bits)) 15)))]), true⟩ : Option Blk) = some ⟨.box (zB (sTo r (i + 1))), true⟩ := by
      rw [ef]
      rcases below6 h' with rfl | rfl | rfl | rfl | rfl | rfl <;> rfl
    repeat refine AJoin.plain ?_
    rcases below6 h' with rfl | rfl | rfl | rfl | rfl | rfl <;>
    · refine And.intro ⟨by decide, by decide⟩ ?_
      refine And.intro (by decide) ?_
      repeat refine AJoin.plain ?_
      refine And.intro h4 ?_
      exact ⟨_, ⟨by decide, by decide⟩, .id ⟨congrArg (int .i64) wi, trivial⟩ rfl ⟨.inl blk, trivial⟩ rfl⟩
  · obtain rfl : i = 6 := by have : ¬ (i : Int) < 6 := h; omega
    have cb := cnt_bd hr
    repeat (first | refine And.intro (by kernel_rfl) ?_ | refine And.intro (by decide) ?_)
    refine And.intro ⟨by decide, by omega⟩ ?_
    refine And.intro (by show 0 + 1 < R.length; omega) ?_
    repeat (first | refine And.intro (by kernel_rfl) ?_ | refine And.intro (by decide) ?_)
    refine And.intro ⟨by decide, by omega⟩ ?_
    refine And.intro (by show 0 + 1 < R.length; omega) ?_
    repeat (first | refine And.intro (by kernel_rfl) ?_ | refine And.intro (by decide) ?_)
    repeat refine AJoin.plain ?_
    refine FC.x (pvalid_fc (shF r)) [] (fun b e => ?_)
    refine bselNot (bsel_intro (fun hb => ?_) (fun hb => ?_))
    rotate_left
    · exact ⟨(zM, 1), nshape top (fun v => by rw [e.2 v] at hb; cases hb), isEnd.go [(1, .new 1)] rfl ⟨.inl rfl, newI 1 rfl, trivial⟩⟩
    have hv := e.1 hb
    refine bselD (fun h12 => ?_) (fun h12 => ?_)
    · exact ⟨(zM, 7), nsize top hv (.inl h12), isEnd.go [(1, .new 1)] rfl ⟨.inl rfl, newI 1 rfl, trivial⟩⟩
    have wc : IntKind.i64.wrap (2 + cntF r) = 2 + cntF r := wrap64_in (by omega) (by omega)
    refine bselN (fun hl => ?_) (fun hl => ?_)
    · have hl' : (R.length : Int) ≠ IntKind.i64.wrap (2 + cntF r) := hl
      rw [wc] at hl'
      exact ⟨(zM, 7), nsize top hv (.inr hl'), isEnd.go [(1, .new 1)] rfl ⟨.inl rfl, newI 1 rfl, trivial⟩⟩
    have hl' : (R.length : Int) = IntKind.i64.wrap (2 + cntF r) := hl
    rw [wc] at hl'
    refine acall.nilAt 0 6 1 (.ints .u64 []) (FC.x (limits_fc ⟨shF r, [], lowF (R.getD 1 0), highF (R.getD 1 0)⟩) [4] (fun b2 e2 => ?_))
    refine bselNot (bsel_intro (fun hb2 => ?_) (fun hb2 => ?_))
    rotate_left
    · exact ⟨(zM, 2), nlim top hv h12 hl' (fun v => by rw [e2.2 v] at hb2; cases hb2), isEnd.go [(1, .new 1)] rfl ⟨.inl rfl, newI 1 rfl, trivial⟩⟩
    have hlim := e2.1 hb2
    refine And.intro ⟨by decide, by show (2 : Int) ≤ R.length; omega⟩ ?_
    refine FC.u (cloneU R 2 (R.length - 2) (by omega) h32) [0] ?_
    repeat (first | refine And.intro (by kernel_rfl) ?_ | refine And.intro (by decide) ?_)
    refine ⟨_, nok top hv h12 hl' hlim, isEnd.go [(1, .to 5)] ?_ ⟨.inl rfl, leB.ints_eq ?_ id, trivial⟩⟩
    · exact congrArg (fun n => SV.t [.a [.v (.int .i64 (fld r 0)), .v (.int .i64 (fld r 1)), .v (.int .i64 (fld r 2)), .v (.int .i64 (fld r 3)), .v (.int .i64 (fld r 4)), .v (.int .i64 (fld r 5)), .s 5 0 n 1, .v (.int .i64 (lowF (R.getD 1 0))), .v (.int .i64 (highF (R.getD 1 0)))], .c (.v (.int .i64 0))]) (show R.length - 2 = (R.drop 2).length by simp)
    · show List.take (R.length - 2) (List.drop 2 R) = R.drop 2
      rw [List.take_of_length_le (by simp)]
set_option maxHeartbeats 3200000 in
set_option maxRecDepth 10000 in
theorem field_fc (r : Int) (i : Nat) (hi : i < 6) : FC Try.prog 31 [int .u64 r, int .u64 i] [] (int .i64 (fld r i)) [] := by
  have e : min (IntKind.u64.wrap (4 * (i : Int))).toNat IntKind.u64.bits = 4 * i := by
    rcases below6 hi with rfl | rfl | rfl | rfl | rfl | rfl <;> decide
  have h4 : 0 ≤ IntKind.u64.wrap (4 * (i : Int)) := by rw [wrapU64_in (by omega) (by omega)]; omega
  refine FC.one (FC.r mix Try.func31 ?_)
  refine And.intro h4 ?_
  refine ⟨(), trivial, .id (congrArg (int .i64) ?_) trivial⟩
  show IntKind.i64.wrap (bitI .and .u64 (r.fdiv (2 ^ min (IntKind.u64.wrap (4 * (i : Int))).toNat IntKind.u64.bits)) 15) = fld r i
  rw [e]; rfl
theorem low_bd {r : Int} (h : 0 ≤ r ∧ r < 18446744073709551616) : 0 ≤ lowF r ∧ lowF r < 4294967296 := by
  obtain ⟨n, rfl⟩ : ∃ n : Nat, r = n := ⟨r.toNat, by omega⟩
  have e3 : bitI .and .u64 ((n : Nat) : Int) 4294967295 = ((n % 4294967296 : Nat) : Int) := by
    have := and_u64 (a := n) (b := 4294967295) (by omega) (by omega)
    rw [show (4294967295 : Nat) = 2 ^ 32 - 1 from rfl, and_mask] at this
    exact this
  unfold lowF
  rw [e3, wrap64_in (by omega) (by omega)]
  omega
theorem high_bd {r : Int} (h : 0 ≤ r ∧ r < 18446744073709551616) : 0 ≤ highF r ∧ highF r < 4294967296 := by
  obtain ⟨n, rfl⟩ : ∃ n : Nat, r = n := ⟨r.toNat, by omega⟩
  have e1 : ((n : Int).fdiv (2 ^ min (Int.toNat 32) IntKind.u64.bits)) = ((n / 4294967296 : Nat) : Int) := fdiv_nat n 32
  unfold highF
  rw [e1, wrap64_in (by omega) (by omega)]
  omega
set_option maxHeartbeats 3200000 in
set_option maxRecDepth 10000 in
theorem decodeR_fc (R : List Int) (hU : U64 R) (h32 : R.length ≤ 4294967296) : ∃ p : MapR × Int, FC Try.prog 22 [.o (.c (.s 0 0 R.length 1))] [u64s R false] (decS p) (decM R p) ∧ Dec R p := by
  refine FC.rj mix Try.func22 ?_
  refine bselD (fun h2 => ?_) (fun h2 => ?_)
  · exact ⟨(zM, 11), .short (by omega), isEnd.go [(1, .new 1)] rfl ⟨.inl rfl, newI 1 rfl, trivial⟩⟩
  have h2' : ¬ R.length < 2 := by omega
  have hr := hU 0
  have nform := Dec.form (R := R) h2'
  have nshape := Dec.shape (R := R) h2'
  have nsize := Dec.size (R := R) h2'
  have nlim := Dec.lim (R := R) h2'
  have nok := Dec.ok (R := R) h2'
  repeat refine AJoin.plain ?_
  refine And.intro ⟨Int.le_refl 0, by omega⟩ ?_
  refine And.intro (by show 0 + 0 < R.length; omega) ?_
  conv => whnf
  generalize hr0 : R.getD (0 + Int.toNat 0) 0 = r
  have hr1 : R.getD 0 0 = r := hr0
  rw [hr1] at hr nform nshape nsize nlim nok
  clear hr0 hr1
  repeat refine AJoin.plain ?_
  repeat (first | refine And.intro (by kernel_rfl) ?_ | refine And.intro (by decide) ?_)
  refine bselN (fun c1 => ?_) (fun c1 => ?_)
  · exact ⟨(zM, 12), nform c1, isEnd.go [(1, .new 1)] rfl ⟨.inl rfl, newI 1 rfl, trivial⟩⟩
  have top : topF r = 1291845632 := c1
  clear c1 nform
  have cb := cnt_bd hr
  repeat refine AJoin.plain ?_
  refine FC.u (field_fc r 0 (by omega)) [] ?_
  refine FC.u (field_fc r 1 (by omega)) [] ?_
  refine FC.u (field_fc r 2 (by omega)) [] ?_
  refine FC.u (field_fc r 3 (by omega)) [] ?_
  refine FC.u (field_fc r 4 (by omega)) [] ?_
  refine FC.u (field_fc r 5 (by omega)) [] ?_
  repeat (first | refine And.intro (by kernel_rfl) ?_ | refine And.intro (by decide) ?_)
  refine And.intro ⟨by decide, by omega⟩ ?_
  refine And.intro (by show 0 + 1 < R.length; omega) ?_
  repeat (first | refine And.intro (by kernel_rfl) ?_ | refine And.intro (by decide) ?_)
  refine And.intro ⟨by decide, by omega⟩ ?_
  refine And.intro (by show 0 + 1 < R.length; omega) ?_
  repeat (first | refine And.intro (by kernel_rfl) ?_ | refine And.intro (by decide) ?_)
  repeat refine AJoin.plain ?_
  have b1 := low_bd (hU 1)
  have b2 := high_bd (hU 1)
  refine FC.x (rvalid_fc (shF r)) [] (fun b e => ?_)
  refine bselNot (bsel_intro (fun hb => ?_) (fun hb => ?_))
  rotate_left
  · exact ⟨(zM, 1), nshape top (fun v => by rw [e.2 v] at hb; cases hb), isEnd.go [(1, .new 1)] rfl ⟨.inl rfl, newI 1 rfl, trivial⟩⟩
  have hv := e.1 hb
  repeat refine AJoin.plain ?_
  repeat (first | refine And.intro (by kernel_rfl) ?_ | refine And.intro (by decide) ?_)
  repeat refine AJoin.plain ?_
  refine bselD (fun h12 => ?_) (fun h12 => ?_)
  · exact ⟨(zM, 7), nsize top hv (.inl h12), isEnd.go [(1, .new 1)] rfl ⟨.inl rfl, newI 1 rfl, trivial⟩⟩
  have wc : IntKind.i64.wrap (2 + cntF r) = 2 + cntF r := wrap64_in (by omega) (by omega)
  refine bselN (fun hl => ?_) (fun hl => ?_)
  · have hl' : (R.length : Int) ≠ IntKind.i64.wrap (2 + cntF r) := hl
    rw [wc] at hl'
    exact ⟨(zM, 7), nsize top hv (.inr hl'), isEnd.go [(1, .new 1)] rfl ⟨.inl rfl, newI 1 rfl, trivial⟩⟩
  have hl' : (R.length : Int) = IntKind.i64.wrap (2 + cntF r) := hl
  rw [wc] at hl'
  repeat refine AJoin.plain ?_
  refine bselD (fun c1 => ?_) (fun c1 => ?_)
  · exact ⟨(zM, 2), nlim top hv h12 hl' (fun v => absurd v.2.1 (Int.not_le.2 c1)), isEnd.go [(1, .new 1)] rfl ⟨.inl rfl, newI 1 rfl, trivial⟩⟩
  refine bselD (fun c2 => ?_) (fun c2 => ?_)
  · exact ⟨(zM, 2), nlim top hv h12 hl' (fun v => absurd v.2.2.2 (Int.not_le.2 c2)), isEnd.go [(1, .new 1)] rfl ⟨.inl rfl, newI 1 rfl, trivial⟩⟩
  have hlim : LimV ⟨shF r, [], lowF (R.getD 1 0), highF (R.getD 1 0)⟩ := ⟨b1.1, Int.not_lt.1 c1, b2.1, Int.not_lt.1 c2⟩
  repeat refine AJoin.plain ?_
  refine And.intro ⟨by decide, by show (2 : Int) ≤ R.length; omega⟩ ?_
  refine And.intro ⟨by show 2 + (R.length - 2) ≤ R.length; omega, trivial⟩ ?_
  refine And.intro (by show 0 + (R.length - 2) ≤ 4294967296; omega) ?_
  repeat (first | refine And.intro (by kernel_rfl) ?_ | refine And.intro (by decide) ?_)
  refine ⟨_, nok top hv h12 hl' hlim, isEnd.go [(1, .to 3)] ?_ ⟨.inl rfl, leB.ints_eq ?_ id, trivial⟩⟩
  · exact congrArg (fun n => SV.t [.a [.v (.int .i64 (fld r 0)), .v (.int .i64 (fld r 1)), .v (.int .i64 (fld r 2)), .v (.int .i64 (fld r 3)), .v (.int .i64 (fld r 4)), .v (.int .i64 (fld r 5)), .s 3 0 n 1, .v (.int .i64 (lowF (R.getD 1 0))), .v (.int .i64 (highF (R.getD 1 0)))], .c (.v (.int .i64 0))]) (show 0 + (R.length - 2) = (R.drop 2).length by simp)
  · show List.take (R.length - 2) (List.drop 2 R) = R.drop 2
    rw [List.take_of_length_le (by simp)]
end Go.Sx.T1
namespace Go.Sx.T1
open Go.Proofs
theorem bit_u64 (op : BinOp) (a b : Int) : 0 ≤ bitI op .u64 a b ∧ bitI op .u64 a b < 18446744073709551616 := by
  obtain ⟨n, hn, e⟩ := bitI_u64_nat op a b
  rw [e]; omega
theorem encW_u64 (s : S6) {r0 : Int} (h : 0 ≤ r0 ∧ r0 < 18446744073709551616) : ∀ i, 0 ≤ encW s r0 i ∧ encW s r0 i < 18446744073709551616
  | 0 => h
  | i + 1 => bit_u64 _ _ _
theorem U64_set {l : List Int} (h : U64 l) {i : Nat} {x : Int} (hx : 0 ≤ x ∧ x < 18446744073709551616) : U64 (l.set i x) := by
  intro j
  by_cases hj : j = i
  · subst hj
    by_cases hl : j < l.length
    · simpa [List.getD, hl] using hx
    · have : (l.set j x)[j]? = none := List.getElem?_eq_none (by simp; omega)
      simp [List.getD, this]
  · have := h j
    simpa [List.getD, List.getElem?_set_ne (Ne.symm hj)] using this
theorem U64_take {l : List Int} (h : U64 l) (n : Nat) : U64 (l.take n) := by
  intro j
  by_cases hj : j < n
  · have := h j
    simpa [List.getD, List.getElem?_take_of_lt hj] using this
  · have : (l.take n)[j]? = none := List.getElem?_eq_none (by simp; omega)
    simp [List.getD, this]
theorem U64_app {l m : List Int} (h : U64 l) (h2 : U64 m) : U64 (l ++ m) := by
  intro j
  by_cases hj : j < l.length
  · have := h j
    simpa [List.getD, List.getElem?_append_left hj] using this
  · have := h2 (j - l.length)
    simpa [List.getD, List.getElem?_append_right (Nat.not_lt.1 hj)] using this
theorem Msk.u64 {b : Nat} (hb : b ≤ 60) {l : List Int} (h : Msk b l) : U64 l := by
  induction h with
  | unit =>
    intro j
    by_cases hj : j < b
    · have e : (unitL b).getD j 0 = ((2 ^ j : Nat) : Int) := by simp [unitL, List.getD, hj]
      rw [e]
      have : 2 ^ j < 18446744073709551616 := Nat.pow_lt_pow_right (m := j) (n := 64) (by omega) (by omega)
      generalize 2 ^ j = z at this ⊢
      omega
    · have : (unitL b)[j]? = none := List.getElem?_eq_none (by rw [unitL_len]; omega)
      simp [List.getD, this]
  | xor h i k hi hk hne ih => exact U64_set ih (bit_u64 _ _ _)
theorem enc_made {b : Nat} {x : MapR} (g : MapG b x) (hb : b ≤ 12) : encF x = ([encW x.s (r0F x.M.length) 6, secF x.lo x.hi] ++ x.M, 0) := by
  have hl := g.msk.len
  have h1 := g.lo
  have h2 := g.hi
  refine encF_0 g.sh.v (by omega) ⟨h1.1, by omega, by omega, h2.2⟩
theorem r0_u64 (n : Int) : 0 ≤ r0F n ∧ r0F n < 18446744073709551616 := by unfold r0F; exact bit_u64 .or _ _
theorem sec_u64 (lo hi : Int) : 0 ≤ secF lo hi ∧ secF lo hi < 18446744073709551616 := by unfold secF; exact bit_u64 .or _ _
theorem U64_two {a b : Int} (ha : 0 ≤ a ∧ a < 18446744073709551616) (hb : 0 ≤ b ∧ b < 18446744073709551616) : U64 [a, b] := by
  intro j
  match j with
  | 0 => exact ha
  | 1 => exact hb
  | j + 2 => simp
theorem enc_u64 {b : Nat} {x : MapR} (g : MapG b x) (hb : b ≤ 12) : U64 (encF x).1 := by
  rw [enc_made g hb]
  exact U64_app (U64_two (encW_u64 _ (r0_u64 _) 6) (sec_u64 _ _)) (g.msk.u64 (by omega))
theorem Dec.len {R : List Int} {p : MapR × Int} (h : Dec R p) : p.1.M.length ≤ R.length := by
  cases h <;> simp [zM]
theorem U64_of {l : List Int} (h : ∀ n ∈ l, (Lit.int .u64 n).wf = true) : U64 l := by
  intro j
  by_cases hj : j < l.length
  · have := h _ (List.getElem_mem hj)
    have e : l.getD j 0 = l[j] := by simp [List.getD, hj]
    rw [e]
    have : 0 ≤ l[j] ∧ l[j] ≤ 18446744073709551615 := by simpa [Lit.wf, IntKind.min, IntKind.max, IntKind.signed, IntKind.bits] using this
    omega
  · have : l[j]? = none := List.getElem?_eq_none (by omega)
    simp [List.getD, this]
end Go.Sx.T1
namespace Go.Sx.T1
open Go.Proofs
def lowN (f : Nat → Nat) : Nat → Nat
  | 0 => 0
  | i + 1 => lowN f i + f i * 2 ^ (4 * i)
theorem lowN_lt {f : Nat → Nat} (hf : ∀ j, j < 6 → f j < 16) : ∀ i, i ≤ 6 → lowN f i < 2 ^ (4 * i)
  | 0, _ => by simp [lowN]
  | i + 1, h => by
    have ih := lowN_lt hf i (by omega)
    have hi := hf i (by omega)
    have e : 2 ^ (4 * (i + 1)) = 16 * 2 ^ (4 * i) := by rw [show 4 * (i + 1) = 4 * i + 4 by omega, Nat.pow_add]; omega
    rw [e]
    simp only [lowN]
    have : f i * 2 ^ (4 * i) ≤ 15 * 2 ^ (4 * i) := Nat.mul_le_mul_right _ (by omega)
    omega
theorem or_step {low f h i : Nat} (hi : i < 6) (hl : low < 2 ^ (4 * i)) (hf : f < 16) : (low + h * 2 ^ 24) ||| (f * 2 ^ (4 * i)) = (low + f * 2 ^ (4 * i)) + h * 2 ^ 24 := by
  have e : 2 ^ (4 * (i + 1)) = 16 * 2 ^ (4 * i) := by rw [show 4 * (i + 1) = 4 * i + 4 by omega, Nat.pow_add]; omega
  have h24 : 2 ^ (4 * (i + 1)) ≤ 2 ^ 24 := Nat.pow_le_pow_right (by omega) (by omega)
  have hm : f * 2 ^ (4 * i) ≤ 15 * 2 ^ (4 * i) := Nat.mul_le_mul_right _ (by omega)
  have l1 : low < 2 ^ 24 := by omega
  have l2 : low + f * 2 ^ (4 * i) < 2 ^ 24 := by omega
  rw [← or_add (k := 24) (b := h) l1, Nat.or_assoc, Nat.or_comm (h * 2 ^ 24), ← Nat.or_assoc, or_add (k := 4 * i) (b := f) hl, or_add (k := 24) (b := h) l2]
theorem pow4 {i : Nat} (hi : i ≤ 6) : 2 ^ (4 * i) ≤ 16777216 := show 2 ^ (4 * i) ≤ 2 ^ 24 from Nat.pow_le_pow_right (by omega) (by omega)
theorem r0_nat {n : Nat} (hn : n < 256) : r0F (n : Int) = ((0 + (n + 77 * 4294967296) * 2 ^ 24 : Nat) : Int) := by
  unfold r0F
  have e1 : IntKind.u64.wrap (n : Int) = n := wrapU64_in (by omega) (by omega)
  have e2 : IntKind.u64.wrap ((n : Int) * 2 ^ min (Int.toNat 24) IntKind.u64.bits) = ((n * 16777216 : Nat) : Int) := by
    show IntKind.u64.wrap ((n : Int) * 2 ^ 24) = _
    rw [shl_u64]
    congr 1
    omega
  rw [e1, e2, show (5548434740920451072 : Int) = ((5548434740920451072 : Nat) : Int) from by omega, or_u64 (a := 5548434740920451072) (b := n * 16777216) (by omega) (by omega), Nat.or_comm]
  have := or_add (k := 56) (b := 77) (show n * 16777216 < 2 ^ 56 by omega)
  rw [show (5548434740920451072 : Nat) = 77 * 2 ^ 56 from by omega, this]
  exact congrArg (fun n : Nat => (n : Int)) (by omega)
theorem enc_nat {s : S6} {f : Nat → Nat} (hs : ∀ j, j < 6 → s.get j = (f j : Int)) (hf : ∀ j, j < 6 → f j < 16) {n : Nat} (hn : n < 256) : ∀ i, i ≤ 6 → encW s (r0F (n : Int)) i = ((lowN f i + (n + 77 * 4294967296) * 2 ^ 24 : Nat) : Int)
  | 0, _ => r0_nat hn
  | i + 1, h => by
    have ih := enc_nat hs hf hn i (by omega)
    have hi := hf i (by omega)
    have hp := pow4 (i := i) (by omega)
    have hl := lowN_lt hf i (by omega)
    have hm : f i * 2 ^ (4 * i) ≤ 15 * 2 ^ (4 * i) := Nat.mul_le_mul_right _ (by omega)
    have e1 : IntKind.u64.wrap (s.get i) = (f i : Int) := by rw [hs i (by omega)]; exact wrapU64_in (by omega) (by omega)
    have e2 : IntKind.u64.wrap ((f i : Int) * 2 ^ (4 * i)) = ((f i * 2 ^ (4 * i) : Nat) : Int) := by
      rw [shl_u64, Nat.mod_eq_of_lt (by omega)]
    simp only [encW]
    rw [ih, e1, e2, or_u64 (by omega) (by omega), or_step (by omega) hl hi]
    rfl
theorem low6 (f : Nat → Nat) : lowN f 6 = f 0 + f 1 * 16 + f 2 * 256 + f 3 * 4096 + f 4 * 65536 + f 5 * 1048576 := by
  simp [lowN]
theorem top_nat {V : Nat} (h : V < 18446744073709551616) : topF (V : Int) = ((V / 4294967296 : Nat) : Int) := fdiv_nat V 32
theorem cnt_nat {V : Nat} (h : V < 18446744073709551616) : cntF (V : Int) = ((V / 16777216 % 256 : Nat) : Int) := by
  have e1 : ((V : Int).fdiv (2 ^ min (Int.toNat 24) IntKind.u64.bits)) = ((V / 16777216 : Nat) : Int) := fdiv_nat V 24
  have e3 : bitI .and .u64 ((V / 16777216 : Nat) : Int) 255 = ((V / 16777216 % 256 : Nat) : Int) := by
    have := and_u64 (a := V / 16777216) (b := 255) (by omega) (by omega)
    rw [show (255 : Nat) = 2 ^ 8 - 1 from rfl, and_mask] at this
    exact this
  unfold cntF
  rw [e1, e3, wrap64_in (by omega) (by omega)]
theorem fld_nat {V : Nat} (h : V < 18446744073709551616) (i : Nat) : fld (V : Int) i = ((V / 2 ^ (4 * i) % 16 : Nat) : Int) := by
  have hd : V / 2 ^ (4 * i) ≤ V := Nat.div_le_self _ _
  have e3 : bitI .and .u64 ((V / 2 ^ (4 * i) : Nat) : Int) 15 = ((V / 2 ^ (4 * i) % 16 : Nat) : Int) := by
    have := and_u64 (a := V / 2 ^ (4 * i)) (b := 15) (by omega) (by omega)
    rw [show (15 : Nat) = 2 ^ 4 - 1 from rfl, and_mask] at this
    exact this
  unfold fld
  rw [fdiv_nat, e3, wrap64_in (by omega) (by omega)]
theorem low_nat {V : Nat} (h : V < 18446744073709551616) : lowF (V : Int) = ((V % 4294967296 : Nat) : Int) := by
  have e3 : bitI .and .u64 ((V : Nat) : Int) 4294967295 = ((V % 4294967296 : Nat) : Int) := by
    have := and_u64 (a := V) (b := 4294967295) (by omega) (by omega)
    rw [show (4294967295 : Nat) = 2 ^ 32 - 1 from rfl, and_mask] at this
    exact this
  unfold lowF
  rw [e3, wrap64_in (by omega) (by omega)]
theorem high_nat {V : Nat} (h : V < 18446744073709551616) : highF (V : Int) = ((V / 4294967296 : Nat) : Int) := by
  have e1 : ((V : Int).fdiv (2 ^ min (Int.toNat 32) IntKind.u64.bits)) = ((V / 4294967296 : Nat) : Int) := fdiv_nat V 32
  unfold highF
  rw [e1, wrap64_in (by omega) (by omega)]
theorem sec_nat {lo hi : Nat} (h1 : lo < 4294967296) (h2 : hi < 4294967296) : secF (lo : Int) (hi : Int) = ((hi * 4294967296 + lo : Nat) : Int) := by
  unfold secF
  have e1 : IntKind.u64.wrap (hi : Int) = hi := wrapU64_in (by omega) (by omega)
  have e2 : IntKind.u64.wrap ((hi : Int) * 2 ^ min (Int.toNat 32) IntKind.u64.bits) = ((hi * 4294967296 : Nat) : Int) := by
    show IntKind.u64.wrap ((hi : Int) * 2 ^ 32) = _
    rw [shl_u64]
    congr 1
    omega
  have e3 : IntKind.u64.wrap (lo : Int) = lo := wrapU64_in (by omega) (by omega)
  rw [e1, e2, e3, or_u64 (by omega) (by omega), Nat.or_comm]
  have := or_add (a := lo) (b := hi) (k := 32) (by omega)
  rw [show hi * 4294967296 = hi * 2 ^ 32 from rfl, this]
  congr 1
  omega
/-- what the first register says -/
structure Head (V n : Nat) (f : Nat → Nat) : Prop where
  lt : V < 18446744073709551616
  top : V / 4294967296 = 1291845632
  cnt : V / 16777216 % 256 = n
  fs : ∀ j, j < 6 → V / 2 ^ (4 * j) % 16 = f j
theorem head_of {f : Nat → Nat} (hf : ∀ j, j < 6 → f j < 16) {n : Nat} (hn : n < 256) : Head (lowN f 6 + (n + 77 * 4294967296) * 2 ^ 24) n f := by
  have h0 := hf 0 (by omega); have h1 := hf 1 (by omega); have h2 := hf 2 (by omega); have h3 := hf 3 (by omega); have h4 := hf 4 (by omega); have h5 := hf 5 (by omega)
  rw [low6]
  refine ⟨by omega, by omega, by omega, fun j hj => ?_⟩
  rcases below6 hj with rfl | rfl | rfl | rfl | rfl | rfl <;> simp only [Nat.reduceMul, Nat.reducePow] <;> omega
theorem head_eq {V n : Nat} {f : Nat → Nat} (h : Head V n f) : lowN f 6 + (n + 77 * 4294967296) * 2 ^ 24 = V := by
  obtain ⟨lt, top, cnt, fs⟩ := h
  have h0 := fs 0 (by omega); have h1 := fs 1 (by omega); have h2 := fs 2 (by omega); have h3 := fs 3 (by omega); have h4 := fs 4 (by omega); have h5 := fs 5 (by omega)
  simp only [Nat.reduceMul, Nat.reducePow] at h0 h1 h2 h3 h4 h5
  rw [low6]
  omega
/-- decoding what was encoded -/
theorem dec_enc {m : MapR} (hs : ShV m.s) (hM : m.M.length ≤ 12) (hl : LimV m) : encF m = ([encW m.s (r0F m.M.length) 6, secF m.lo m.hi] ++ m.M, 0) ∧ Dec ([encW m.s (r0F m.M.length) 6, secF m.lo m.hi] ++ m.M) (m, 0) ∧
    topF (encW m.s (r0F m.M.length) 6) = 1291845632 ∧ cntF (encW m.s (r0F m.M.length) 6) = m.M.length ∧ (∀ j, j < 6 → fld (encW m.s (r0F m.M.length) 6) j = m.s.get j) ∧ lowF (secF m.lo m.hi) = m.lo ∧ highF (secF m.lo m.hi) = m.hi := by
  have hsj : ∀ j, j < 6 → m.s.get j = (((m.s.get j).toNat : Nat) : Int) := fun j hj => by have := hs.1 j hj; omega
  have hf : ∀ j, j < 6 → (fun j => (m.s.get j).toNat) j < 16 := fun j hj => by have := hs.1 j hj; show (m.s.get j).toNat < 16; omega
  have hd := head_of hf (n := m.M.length) (by omega)
  have e := enc_nat (s := m.s) (f := fun j => (m.s.get j).toNat) hsj hf (n := m.M.length) (by omega) 6 (by omega)
  generalize lowN (fun j => (m.s.get j).toNat) 6 + (m.M.length + 77 * 4294967296) * 2 ^ 24 = V at hd e
  obtain ⟨l1, l2, l3, l4⟩ := hl
  have es := sec_nat (lo := m.lo.toNat) (hi := m.hi.toNat) (by omega) (by omega)
  rw [Int.toNat_of_nonneg l1, Int.toNat_of_nonneg l3] at es
  have t1 : topF (encW m.s (r0F m.M.length) 6) = 1291845632 := by rw [e, top_nat hd.lt, hd.top]; rfl
  have t2 : cntF (encW m.s (r0F m.M.length) 6) = m.M.length := by rw [e, cnt_nat hd.lt, hd.cnt]
  have t3 : ∀ j, j < 6 → fld (encW m.s (r0F m.M.length) 6) j = m.s.get j := fun j hj => by rw [e, fld_nat hd.lt, hd.fs j hj, hsj j hj]; rfl
  have t4 : lowF (secF m.lo m.hi) = m.lo := by rw [es, low_nat (by omega)]; omega
  have t5 : highF (secF m.lo m.hi) = m.hi := by rw [es, high_nat (by omega)]; omega
  refine ⟨encF_0 hs (by omega) ⟨l1, l2, l3, l4⟩, ?_, t1, t2, t3, t4, t5⟩
  have sh : shF (encW m.s (r0F m.M.length) 6) = m.s := s6_ext (t3 0 (by omega)) (t3 1 (by omega)) (t3 2 (by omega)) (t3 3 (by omega)) (t3 4 (by omega)) (t3 5 (by omega))
  generalize hx : encW m.s (r0F m.M.length) 6 = x at *
  generalize hy : secF m.lo m.hi = y at *
  have g0 : ([x, y] ++ m.M).getD 0 0 = x := rfl
  have g1 : ([x, y] ++ m.M).getD 1 0 = y := rfl
  have hle : (([x, y] ++ m.M).length : Int) = 2 + cntF x := by rw [t2]; simp; omega
  have := Dec.ok (R := [x, y] ++ m.M) (by simp) (by rw [g0]; exact t1) (by rw [g0, sh]; exact hs) (by rw [g0, t2]; omega) (by rw [g0]; exact hle) (by rw [g0, g1, sh, t4, t5]; exact ⟨l1, l2, l3, l4⟩)
  rw [g0, g1, sh, t4, t5] at this
  exact this
theorem enc_dec {R : List Int} {n : MapR} (hU : U64 R) (h : Dec R (n, 0)) : encF n = (R, 0) := by
  cases h with
  | ok h h1 h2 h3 h4 h5 =>
    have u0 := hU 0
    have u1 := hU 1
    generalize hr : R.getD 0 0 = r at *
    generalize hr1 : R.getD 1 0 = r1 at *
    obtain ⟨V, rfl⟩ : ∃ V : Nat, r = V := ⟨r.toNat, by omega⟩
    obtain ⟨W, rfl⟩ : ∃ W : Nat, r1 = W := ⟨r1.toNat, by omega⟩
    have hV : V < 18446744073709551616 := by omega
    have hW : W < 18446744073709551616 := by omega
    rw [cnt_nat hV] at h3 h4
    have hd : Head V (V / 16777216 % 256) (fun j => V / 2 ^ (4 * j) % 16) := ⟨hV, by rw [top_nat hV] at h1; omega, rfl, fun j _ => rfl⟩
    have hlen : (R.drop 2).length = V / 16777216 % 256 := by rw [List.length_drop]; omega
    have es := enc_nat (s := shF (V : Int)) (f := fun j => V / 2 ^ (4 * j) % 16) (fun j hj => by rcases below6 hj with rfl | rfl | rfl | rfl | rfl | rfl <;> exact fld_nat hV _) (fun j _ => Nat.mod_lt _ (by omega)) (n := V / 16777216 % 256) (by omega) 6 (by omega)
    rw [head_eq hd, ← hlen] at es
    have e2 : secF (lowF (W : Int)) (highF (W : Int)) = (W : Int) := by
      rw [low_nat hW, high_nat hW, sec_nat (Nat.mod_lt _ (by omega)) (by omega)]
      omega
    have h5' : LimV ⟨shF (V : Int), R.drop 2, lowF (W : Int), highF (W : Int)⟩ := h5
    rw [encF_0 (m := ⟨shF (V : Int), R.drop 2, lowF (W : Int), highF (W : Int)⟩) h2 (by show ¬ (R.drop 2).length > 12; omega) h5']
    dsimp only
    rw [es, e2]
    have hR : [(V : Int), (W : Int)] ++ R.drop 2 = R := by
      clear es e2 hlen hd h5' h5 h4 h3 h2 h1 u0 u1
      match R, h with
      | [], h => exact absurd (by simp) h
      | [_], h => exact absurd (by simp) h
      | a :: b :: t, _ =>
        have ha : a = (V : Int) := hr
        have hb : b = (W : Int) := hr1
        rw [← ha, ← hb]; rfl
    exact congrArg (fun l => (l, (0 : Int))) hR
end Go.Sx.T1
namespace Go.Sx.T1
open Go.Proofs
set_option maxHeartbeats 3200000 in
set_option maxRecDepth 10000 in
theorem samelist_off (xs ys : List Int) (off n : Nat) (hn : off + n ≤ xs.length) (h32 : xs.length ≤ 4294967296) (h33 : ys.length ≤ 4294967296) (heq : (xs.drop off).take n = ys) : FC Try.prog 13 [.o (.c (.s 0 off n 1)), .o (.c (.s 1 0 ys.length 1))] [u64s xs false, u64s ys false] (boo true) [u64s xs false, u64s ys false] := by
  have hl : n = ys.length := by rw [← heq, List.length_take, List.length_drop]; omega
  have hg : ∀ i, i < n → xs.getD (off + i) 0 = ys.getD i 0 := fun i hi => by
    rw [← heq]
    simp [List.getD, List.getElem?_take_of_lt hi, List.getElem?_drop]
  refine FC.one (FC.rj mix Try.func13 ?_)
  refine bselN (fun h => by exfalso; exact h (by show (n : Int) = ys.length; omega)) (fun h => ?_)
  repeat refine AJoin.plain ?_
  refine ALoop.go (X := Nat) (fun i => i ≤ n) (fun i => n - i) [0, 1] [0, 1] (fun i => [(5, int .i64 i)])
    (fun _ => []) 0 (Nat.zero_le _) ⟨rfl, trivial⟩ trivial ?_
  intro i hi
  dsimp only [headF, headM]
  refine bselD (fun h => ?_) (fun h => ?_)
  · have h' : i < n := by have : (i : Int) < n := h; omega
    have wi : IntKind.i64.wrap ((i : Int) + 1) = ((i + 1 : Nat) : Int) := wrap64_in (by omega) (by omega)
    repeat refine AJoin.plain ?_
    refine And.intro ⟨by omega, by omega⟩ ?_
    refine And.intro (by show off + i < xs.length; omega) ?_
    repeat (first | refine And.intro (by kernel_rfl) ?_ | refine And.intro (by decide) ?_)
    refine And.intro ⟨by omega, by omega⟩ ?_
    refine And.intro (by show 0 + i < ys.length; omega) ?_
    repeat (first | refine And.intro (by kernel_rfl) ?_ | refine And.intro (by decide) ?_)
    refine bselF (show (xs.getD (off + i) 0 != ys.getD (0 + i) 0) = false by rw [hg i h', Nat.zero_add]; exact bneI _) ?_
    exact ⟨i + 1, ⟨by omega, by show n - (i + 1) < n - i; omega⟩, .id ⟨congrArg (int .i64) wi, trivial⟩ rfl trivial rfl⟩
  · exact ⟨(), trivial, .id rfl ⟨.inl rfl, .inl rfl, trivial⟩⟩
set_option maxHeartbeats 3200000 in
set_option maxRecDepth 10000 in
theorem law (ts : List Int) : FC Try.prog 3 [.o (.c (.s 0 0 ts.length 1))] [diceL ts] (boo true) [diceL ts] := by
  refine FC.one (FC.rj mix Try.func3 ?_)
  refine FC.u (light_fc ts) [0] ?_
  refine bselNot (bselD (fun hl => ?_) (fun hl => ?_))
  rotate_left
  · repeat refine AJoin.plain ?_
    refine FC.u awake_fc [] ?_
    exact ⟨(), trivial, .id rfl ⟨.inl rfl, trivial⟩⟩
  repeat refine AJoin.plain ?_
  refine FC.u (roll_fc ts) [0] ?_
  refine FC.x (shape_fc ts 0 12 hl (by omega)) [1, 0] (fun ⟨s, k1⟩ g => ?_)
  simp only at g
  have nn := sum_nn g.lo
  obtain ⟨b, hb⟩ : ∃ b : Nat, sumTo s 6 = b := ⟨(sumTo s 6).toNat, by omega⟩
  have hb12 : b ≤ 12 := by have := g.sum; omega
  refine FC.x (map_fc ts k1 s b hl g hb) [1, 0] (fun ⟨x, k2⟩ gx => ?_)
  simp only at gx
  have lx : x.M.length = b := gx.msk.len
  have glo := gx.lo
  have ghi := gx.hi
  obtain ⟨en, -, f1, f2, f3, f4, f5⟩ := dec_enc gx.sh.v (by omega) ⟨glo.1, by omega, by omega, ghi.2⟩
  generalize encW x.s (r0F x.M.length) 6 = r0 at en f1 f2 f3
  generalize secF x.lo x.hi = r1 at en f4 f5
  refine FC.x (encode_fc x) [2] (fun ⟨l, e⟩ ex => ?_)
  rw [en] at ex
  obtain ⟨hle, rfl⟩ := Prod.mk.inj ex
  have ll : l.length = 2 + x.M.length := by rw [hle]; simp; omega
  have g0 : l.getD 0 0 = r0 := by rw [hle]; rfl
  have g1 : l.getD 1 0 = r1 := by rw [hle]; rfl
  have gd : l.drop 2 = x.M := by rw [hle]; rfl
  clear hle ex en
  have w2 : IntKind.i64.wrap (2 + (x.M.length : Int)) = 2 + (x.M.length : Int) := wrap64_in (by omega) (by omega)
  repeat refine AJoin.plain ?_
  refine FC.u awake_fc [] ?_
  repeat (first | refine And.intro (by kernel_rfl) ?_ | refine And.intro (by decide) ?_)
  refine bselF (show ((l.length : Int) != IntKind.i64.wrap (2 + (x.M.length : Int))) = false by rw [w2, ll]; simp) ?_
  repeat refine AJoin.plain ?_
  repeat (first | refine And.intro (by kernel_rfl) ?_ | refine And.intro (by decide) ?_)
  refine ALoop.go (X := Nat) (fun i => i ≤ 6) (fun i => 6 - i) [4, 5, 7] [0, 2, 3, 4, 5] (fun i => [(8, int .i64 i)])
    (fun _ => []) 0 (Nat.zero_le _) ⟨rfl, trivial⟩ trivial ?_
  intro i hi
  dsimp only [headF, headM]
  refine bselD (fun h => ?_) (fun h => ?_)
  · have h' : i < 6 := by have : (i : Int) < 6 := h; omega
    have wi : IntKind.i64.wrap ((i : Int) + 1) = ((i + 1 : Nat) : Int) := wrap64_in (by omega) (by omega)
    have es := sh6_eq' h'
    have h4 : 0 ≤ IntKind.u64.wrap (IntKind.i64.wrap (4 * (i : Int))) := by rw [wrap64_in (by omega) (by omega), wrapU64_in (by omega) (by omega)]; omega
    have ef : (IntKind.i64.wrap (bitI .and .u64 ((l.getD (0 + Int.toNat 0) 0).fdiv (2 ^ min (IntKind.u64.wrap (IntKind.i64.wrap (4 * (i : Int)))).toNat IntKind.u64.bits)) 15) != x.s.get i) = false := by
      rw [es, show l.getD (0 + Int.toNat 0) 0 = r0 from g0]
      have := f3 i h'
      unfold fld at this
      rw [this]; exact bneI _
    repeat refine AJoin.plain ?_
    rcases below6 h' with rfl | rfl | rfl | rfl | rfl | rfl <;>
    · refine And.intro ⟨by decide, by show (0 : Int) < l.length; omega⟩ ?_
      refine And.intro (by show 0 + 0 < l.length; omega) ?_
      refine And.intro h4 ?_
      refine And.intro ⟨by decide, by decide⟩ ?_
      repeat (first | refine And.intro (by kernel_rfl) ?_ | refine And.intro (by decide) ?_)
      refine bselF ef ?_
      exact ⟨_, ⟨by decide, by decide⟩, .id ⟨congrArg (int .i64) wi, trivial⟩ rfl trivial rfl⟩
  · refine And.intro ⟨by decide, by show (0 : Int) < l.length; omega⟩ ?_
    refine And.intro (by show 0 + 0 < l.length; omega) ?_
    repeat (first | refine And.intro (by kernel_rfl) ?_ | refine And.intro (by decide) ?_)
    refine bselT (show (cntF (l.getD 0 0) == (x.M.length : Int)) = true by rw [g0, f2]; exact beq_self_eq_true _) ?_
    refine And.intro ⟨by decide, by show (0 : Int) < l.length; omega⟩ ?_
    refine And.intro (by show 0 + 0 < l.length; omega) ?_
    repeat (first | refine And.intro (by kernel_rfl) ?_ | refine And.intro (by decide) ?_)
    refine bselT (show (topF (l.getD 0 0) == 1291845632) = true by rw [g0, f1]; exact beq_self_eq_true _) ?_
    refine And.intro ⟨by decide, by show (1 : Int) < l.length; omega⟩ ?_
    refine And.intro (by show 0 + 1 < l.length; omega) ?_
    repeat (first | refine And.intro (by kernel_rfl) ?_ | refine And.intro (by decide) ?_)
    refine bselT (show (lowF (l.getD 1 0) == x.lo) = true by rw [g1, f4]; exact beq_self_eq_true _) ?_
    refine And.intro ⟨by decide, by show (1 : Int) < l.length; omega⟩ ?_
    refine And.intro (by show 0 + 1 < l.length; omega) ?_
    repeat (first | refine And.intro (by kernel_rfl) ?_ | refine And.intro (by decide) ?_)
    refine bselT (show (highF (l.getD 1 0) == x.hi) = true by rw [g1, f5]; exact beq_self_eq_true _) ?_
    refine And.intro ⟨by decide, by show (2 : Int) ≤ l.length; omega⟩ ?_
    refine FC.u (samelist_off l x.M 2 (l.length - 2) (by omega) (by omega) (by omega) (by rw [gd, List.take_of_length_le (by omega)])) [4, 2] ?_
    repeat (first | refine And.intro (by kernel_rfl) ?_ | refine And.intro (by decide) ?_)
    exact ⟨(), trivial, .id rfl ⟨.inl rfl, trivial⟩⟩
end Go.Sx.T1
