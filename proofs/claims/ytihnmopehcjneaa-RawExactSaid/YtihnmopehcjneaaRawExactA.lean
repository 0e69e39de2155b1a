/- Contracts of the functions that RawExact reaches, and the walk of the law, part 1. Conditions: none. -/
import Derived.Test.YtihnmopehcjneaaSxTwo
import Derived.Test.YtihnmopehcjneaaChecked
namespace Go.Sx.T1
open Go.Proofs

theorem mix : Try.prog.follows .mixedOrders = true := by kernel_rfl

def mMod (n m : Int) : Int := if m < 1 then 0 else n % m

theorem tmod_fix (n m : Int) (h : 1 ≤ m) : (n.tmod m < 0 → n.tmod m + m = n % m) ∧ (¬ n.tmod m < 0 → n.tmod m = n % m) := by
  have h1 := Int.emod_lt_of_pos n (show 0 < m by omega)
  have h2 := Int.emod_nonneg n (show m ≠ 0 by omega)
  rw [Int.tmod_eq_emod]
  split <;> omega

set_option maxRecDepth 10000 in
theorem mod_fc (n m : Int) (hm : m < 9223372036854775808) : FC Try.prog 17 [int .i64 n, int .i64 m] [] (int .i64 (mMod n m)) [] := by
  refine FC.b mix Try.func17 ?_
  refine bselD (fun h => ?_) (fun h => ?_)
  · exact ⟨congrArg (int .i64) (by simp [mMod, h]), trivial⟩
  · refine ⟨by omega, ?_⟩
    have hlt := Int.tmod_lt_of_pos n (show 0 < m by omega)
    have hgt := Int.lt_tmod_of_pos n (show 0 < m by omega)
    have e := tmod_fix n m (by omega)
    refine bselD (fun h2 => ?_) (fun h2 => ?_)
    · refine ⟨congrArg (int .i64) ?_, trivial⟩
      rw [wrap64_in (by omega) (by omega)]
      simp only [mMod, h, if_false]
      exact e.1 h2
    · exact ⟨congrArg (int .i64) (by simp [mMod, h]; exact e.2 h2), trivial⟩

/-- the dice: name 0 the two fields, name 1 the numbers; k numbers have been asked for -/
def diceB (ts : List Int) (k : Nat) : Option Blk := some ⟨.box [.s 1 0 ts.length 1, .v (.int .i64 (min k ts.length : Nat))], true⟩
def diceL (ts : List Int) : Option Blk := some ⟨.ints .i64 ts, false⟩
def dv (ts : List Int) (k : Nat) (n : Int) : Int := mMod (ts.getD k 0) n

set_option maxRecDepth 10000 in
theorem next_fc (ts : List Int) (k : Nat) (n : Int) (hn : n < 9223372036854775808) (hl : ts.length ≤ 400) :
    FC Try.prog 10 [.o (.c (.p 0 0 0)), int .i64 n] [diceB ts k, diceL ts] (int .i64 (dv ts k n)) [diceB ts (k + 1), diceL ts] := by
  refine FC.b mix Try.func10 ?_
  refine ⟨by kernel_rfl, ?_⟩
  refine bselD (fun h => ?_) (fun h => ?_)
  · have h' : ts.length ≤ k := by omega
    refine ⟨congrArg (int .i64) ?_, congrArg some ?_, rfl, trivial⟩
    · simp [dv, h', mMod]
    · simp [Nat.min_eq_right h', Nat.min_eq_right (Nat.le_succ_of_le h')]
  · have h' : k < ts.length := by omega
    have e : min k ts.length = k := Nat.min_eq_left (by omega)
    have e2 : min (k + 1) ts.length = k + 1 := Nat.min_eq_left (by omega)
    have w1 : IntKind.i64.wrap ((k : Int) + 1) = (k : Int) + 1 := wrap64_in (by omega) (by omega)
    have w2 : IntKind.i64.wrap ((k : Int) + 1 - 1) = (k : Int) := by rw [wrap64_in (by omega) (by omega)]; omega
    skip
    refine ⟨⟨?_, ?_⟩, ?_, ?_⟩
    · rw [e, w1, w2]; omega
    · rw [e, w1, w2]; omega
    · rw [e, w1, w2]; omega
    refine FC.use (mod_fc (ts.getD k 0) n hn) [] (congrArg (fun x => [int .i64 (ts.getD x 0), int .i64 n]) ?_) rfl trivial rfl rfl trivial ?_
    · rw [e, w1, w2]; simp
    refine ⟨by kernel_rfl, ?_⟩
    refine ⟨congrArg (int .i64) ?_, congrArg some ?_, rfl, trivial⟩
    · rfl
    · rw [e, w1, e2]; rfl
end Go.Sx.T1
namespace Go.Sx.T1
open Go.Proofs

theorem mMod_bd {n m : Int} (h : 1 ≤ m) : 0 ≤ mMod n m ∧ mMod n m < m := by
  unfold mMod
  rw [if_neg (by omega)]
  exact ⟨Int.emod_nonneg n (by omega), Int.emod_lt_of_pos n (by omega)⟩
theorem dv_bd (ts : List Int) (k : Nat) {n : Int} (h : 1 ≤ n) : 0 ≤ dv ts k n ∧ dv ts k n < n := mMod_bd h

set_option maxRecDepth 10000 in
theorem one_fc (ts : List Int) (k : Nat) (n : Int) (hn : n < 9223372036854775808) (hn1 : 1 ≤ n) (hl : ts.length ≤ 400) :
    FC Try.prog 11 [.o (.c (.p 0 0 0)), int .i64 n] [diceB ts k, diceL ts] (boo (dv ts k n == n - 1)) [diceB ts (k + 1), diceL ts] := by
  refine FC.b mix Try.func11 ?_
  refine FC.use (next_fc ts k n hn hl) [0, 1] rfl rfl ⟨rfl, trivial, trivial⟩ rfl rfl ⟨rfl, rfl, trivial⟩ ?_
  exact ⟨congrArg (fun x => boo (dv ts k n == x)) (wrap64_in (by omega) (by omega)), rfl, rfl, trivial⟩

structure Stt where
  valid : Bool
  overflow : Bool
  outcome : Int
  source : Int
  stamp : Int
  address : Int
  chips : Int

def stC (s : Stt) : List C := [.v (.bool s.valid), .v (.bool s.overflow), .v (.int .i64 s.outcome), .v (.int .i64 s.source), .v (.int .i64 s.stamp), .v (.int .i64 s.address), .v (.int .u64 s.chips)]
def dStatus (ts : List Int) (k : Nat) (a : Int) : Stt :=
  ⟨true, dv ts k 3 == 3 - 1, 1 + dv ts (k + 1) 2, dv ts (k + 2) 3, [0, 1, dv ts (k + 3) 20, 65535].getD (dv ts (k + 4) 4).toNat 0, a, dv ts (k + 5) 1048576⟩

set_option maxRecDepth 10000 in
theorem status_fc (ts : List Int) (k : Nat) (a : Int) (hl : ts.length ≤ 400) :
    FC Try.prog 9 [.o (.c (.p 0 0 0)), int .i64 a] [diceB ts k, diceL ts] (.o (.a (stC (dStatus ts k a)))) [diceB ts (k + 6), diceL ts] := by
  refine FC.b mix Try.func9 ?_
  refine FC.use (one_fc ts k 3 (by omega) (by omega) hl) [0, 1] rfl rfl ⟨rfl, trivial, trivial⟩ rfl rfl ⟨rfl, rfl, trivial⟩ ?_
  refine FC.use (next_fc ts (k + 1) 2 (by omega) hl) [0, 1] rfl rfl ⟨rfl, trivial, trivial⟩ rfl rfl ⟨rfl, rfl, trivial⟩ ?_
  refine FC.use (next_fc ts (k + 2) 3 (by omega) hl) [0, 1] rfl rfl ⟨rfl, trivial, trivial⟩ rfl rfl ⟨rfl, rfl, trivial⟩ ?_
  refine FC.use (next_fc ts (k + 3) 20 (by omega) hl) [0, 1] rfl rfl ⟨rfl, trivial, trivial⟩ rfl rfl ⟨rfl, rfl, trivial⟩ ?_
  refine FC.use (next_fc ts (k + 4) 4 (by omega) hl) [0, 1] rfl rfl ⟨rfl, trivial, trivial⟩ rfl rfl ⟨rfl, rfl, trivial⟩ ?_
  have b := dv_bd ts (k + 4) (n := 4) (by omega)
  refine And.intro b (And.intro (by simp; omega) ?_)
  refine FC.use (next_fc ts (k + 5) 1048576 (by omega) hl) [0, 1] rfl rfl ⟨rfl, trivial, trivial⟩ rfl rfl ⟨rfl, rfl, trivial⟩ ?_
  refine And.intro (by kernel_rfl) ?_
  have b1 := dv_bd ts (k + 1) (n := 2) (by omega)
  have b5 := dv_bd ts (k + 5) (n := 1048576) (by omega)
  refine ⟨?_, rfl, rfl, trivial⟩
  show SV.o (.a _) = _
  rw [wrap64_in (n := 1 + dv ts (k + 1) 2) (by omega) (by omega), wrapU64_in (n := dv ts (k + 5) 1048576) (by omega) (by omega), Nat.zero_add]
  rfl
end Go.Sx.T1
namespace Go.Sx.T1
open Go.Proofs

def oddV (ts : List Int) (k : Nat) : Int := [-1, 0, 1, 2, 3, 4, 65535, 65536, 1048575, 1048576].getD (dv ts k 10).toNat 0
def oddS (ts : List Int) (k : Nat) (s : Stt) : Stt :=
  let v := oddV ts k
  let c := dv ts (k + 1) 6
  if c = 0 then { s with valid := !s.valid }
  else if c = 1 then { s with outcome := v }
  else if c = 2 then { s with source := v }
  else if c = 3 then { s with stamp := v }
  else if c = 4 then { s with address := v }
  else { s with chips := [549755813888, 1099511627776, 9223372036854775808].getD (dv ts (k + 2) 3).toNat 0 }
def oddK (ts : List Int) (k : Nat) : Nat := if dv ts (k + 1) 6 = 0 ∨ dv ts (k + 1) 6 = 1 ∨ dv ts (k + 1) 6 = 2 ∨ dv ts (k + 1) 6 = 3 ∨ dv ts (k + 1) 6 = 4 then k + 2 else k + 3

set_option maxRecDepth 10000 in
theorem oddStatus_fc (ts : List Int) (k : Nat) (s : Stt) (hl : ts.length ≤ 400) :
    FC Try.prog 12 [.o (.c (.p 0 0 0)), .o (.a (stC s))] [diceB ts k, diceL ts] (.o (.a (stC (oddS ts k s)))) [diceB ts (oddK ts k), diceL ts] := by
  refine FC.b mix Try.func12 ?_
  refine FC.u (next_fc ts k 10 (by omega) hl) [0, 1] ?_
  have b := dv_bd ts k (n := 10) (by omega)
  have b2 := dv_bd ts (k + 2) (n := 3) (by omega)
  refine And.intro b (And.intro (by simp; omega) ?_)
  refine FC.u (next_fc ts (k + 1) 6 (by omega) hl) [0, 1] ?_
  refine bselE (fun h0 => ?_) (fun h0 => ?_)
  · exact ⟨congrArg (fun x => SV.o (.a (stC x))) (show ({ s with valid := !s.valid } : Stt) = oddS ts k s by simp only [oddS, if_pos h0]), congrArg (diceB ts) (show k + 2 = oddK ts k by unfold oddK; rw [if_pos (by omega)]), rfl, trivial⟩
  refine bselE (fun h1 => ?_) (fun h1 => ?_)
  · exact ⟨congrArg (fun x => SV.o (.a (stC x))) (show ({ s with outcome := [-1, 0, 1, 2, 3, 4, 65535, 65536, 1048575, 1048576].getD (0 + (dv ts k 10).toNat) 0 } : Stt) = oddS ts k s by simp only [oddS, if_neg h0, if_pos h1, oddV, Nat.zero_add]), congrArg (diceB ts) (show k + 2 = oddK ts k by unfold oddK; rw [if_pos (by omega)]), rfl, trivial⟩
  refine bselE (fun h2 => ?_) (fun h2 => ?_)
  · exact ⟨congrArg (fun x => SV.o (.a (stC x))) (show ({ s with source := [-1, 0, 1, 2, 3, 4, 65535, 65536, 1048575, 1048576].getD (0 + (dv ts k 10).toNat) 0 } : Stt) = oddS ts k s by simp only [oddS, if_neg h0, if_neg h1, if_pos h2, oddV, Nat.zero_add]), congrArg (diceB ts) (show k + 2 = oddK ts k by unfold oddK; rw [if_pos (by omega)]), rfl, trivial⟩
  refine bselE (fun h3 => ?_) (fun h3 => ?_)
  · exact ⟨congrArg (fun x => SV.o (.a (stC x))) (show ({ s with stamp := [-1, 0, 1, 2, 3, 4, 65535, 65536, 1048575, 1048576].getD (0 + (dv ts k 10).toNat) 0 } : Stt) = oddS ts k s by simp only [oddS, if_neg h0, if_neg h1, if_neg h2, if_pos h3, oddV, Nat.zero_add]), congrArg (diceB ts) (show k + 2 = oddK ts k by unfold oddK; rw [if_pos (by omega)]), rfl, trivial⟩
  refine bselE (fun h4 => ?_) (fun h4 => ?_)
  · exact ⟨congrArg (fun x => SV.o (.a (stC x))) (show ({ s with address := [-1, 0, 1, 2, 3, 4, 65535, 65536, 1048575, 1048576].getD (0 + (dv ts k 10).toNat) 0 } : Stt) = oddS ts k s by simp only [oddS, if_neg h0, if_neg h1, if_neg h2, if_neg h3, if_pos h4, oddV, Nat.zero_add]), congrArg (diceB ts) (show k + 2 = oddK ts k by unfold oddK; rw [if_pos (by omega)]), rfl, trivial⟩
  refine FC.u (next_fc ts (k + 2) 3 (by omega) hl) [0, 1] ?_
  refine And.intro b2 (And.intro (by simp; omega) ?_)
  exact ⟨congrArg (fun x => SV.o (.a (stC x))) (show ({ s with chips := [549755813888, 1099511627776, 9223372036854775808].getD (0 + (dv ts (k + 2) 3).toNat) 0 } : Stt) = oddS ts k s by simp only [oddS, if_neg h0, if_neg h1, if_neg h2, if_neg h3, if_neg h4, Nat.zero_add]), congrArg (diceB ts) (show k + 3 = oddK ts k by unfold oddK; rw [if_neg (by omega)]), rfl, trivial⟩

def eqS (s t : Stt) : Bool := s.valid == t.valid && (s.overflow == t.overflow && (s.outcome == t.outcome && (s.source == t.source && (s.stamp == t.stamp && (s.address == t.address && (s.chips == t.chips && true))))))
def zS : Stt := ⟨false, false, 0, 0, 0, 0, 0⟩
theorem eqS_iff {s t : Stt} : eqS s t = true ↔ s = t := by
  obtain ⟨a, b, c, d, e, f, g⟩ := s
  obtain ⟨a', b', c', d', e', f', g'⟩ := t
  simp [eqS]
theorem eqS_self (s : Stt) : eqS s s = true := eqS_iff.2 rfl

set_option maxRecDepth 10000 in
theorem zero_fc (s : Stt) : FC Try.prog 21 [.o (.a (stC s))] [] (boo (eqS s zS)) [] := by
  refine FC.b mix Try.func21 ?_
  refine And.intro (by kernel_rfl) ?_
  exact ⟨rfl, trivial⟩
set_option maxRecDepth 10000 in
theorem between_fc (n a b : Int) : FC Try.prog 22 [int .i64 n, int .i64 a, int .i64 b] [] (boo (decide (a ≤ n) && decide (n ≤ b))) [] := by
  refine FC.b mix Try.func22 ?_
  refine bselD (fun h => ?_) (fun h => ?_)
  · exact ⟨congrArg boo (show decide (n ≤ b) = (decide (a ≤ n) && decide (n ≤ b)) by simp [show a ≤ n by omega]), trivial⟩
  · exact ⟨congrArg boo (show false = (decide (a ≤ n) && decide (n ≤ b)) by simp [show ¬ a ≤ n by omega]), trivial⟩

end Go.Sx.T1
namespace Go.Sx.T1
open Go.Proofs
def in8 (n a b : Int) : Bool := decide (a ≤ n) && decide (n ≤ b)
def validS (s : Stt) : Bool := eqS s zS || (s.valid && (in8 s.outcome 1 2 && (in8 s.source 0 2 && (in8 s.stamp 0 65535 && (in8 s.address 0 1048575 && s.chips / 1099511627776 == 0)))))
theorem fdiv40 (n : Int) : n.fdiv (2 ^ 40) = n / 1099511627776 := Int.fdiv_eq_ediv_of_nonneg _ (by decide)
set_option maxRecDepth 10000 in
theorem valid_fc (s : Stt) : FC Try.prog 19 [.o (.a (stC s))] [] (boo (validS s)) [] := by
  refine FC.b mix Try.func19 ?_
  refine FC.u (zero_fc s) [] ?_
  refine bsel_intro (fun h0 => ?_) (fun h0 => ?_)
  · exact ⟨congrArg boo (show true = validS s by simp [validS, h0]), trivial⟩
  refine bsel_intro (fun h1 => ?_) (fun h1 => ?_)
  rotate_left
  · exact ⟨congrArg boo (show false = validS s by simp [validS, h0, h1]), trivial⟩
  refine FC.u (between_fc s.outcome 1 2) [] ?_
  refine bsel_intro (fun h2 => ?_) (fun h2 => ?_)
  rotate_left
  · exact ⟨congrArg boo (show false = validS s by simp [validS, h0, in8, h2]), trivial⟩
  refine FC.u (between_fc s.source 0 2) [] ?_
  refine bsel_intro (fun h3 => ?_) (fun h3 => ?_)
  rotate_left
  · exact ⟨congrArg boo (show false = validS s by simp [validS, h0, in8, h3]), trivial⟩
  refine FC.u (between_fc s.stamp 0 65535) [] ?_
  refine bsel_intro (fun h4 => ?_) (fun h4 => ?_)
  rotate_left
  · exact ⟨congrArg boo (show false = validS s by simp [validS, h0, in8, h4]), trivial⟩
  refine FC.u (between_fc s.address 0 1048575) [] ?_
  refine bsel_intro (fun h5 => ?_) (fun h5 => ?_)
  rotate_left
  · exact ⟨congrArg boo (show false = validS s by simp [validS, h0, in8, h5]), trivial⟩
  refine And.intro (by decide) ?_
  refine And.intro (congrArg boo ?_) trivial
  simp only [validS, h0, in8, h1, h2, h3, h4, h5, Bool.false_or, Bool.true_and]
  rw [← fdiv40]; rfl
end Go.Sx.T1
namespace Go.Sx.T1
open Go.Proofs
theorem fv {s : Stt} (h : s.valid = false) (h0 : eqS s zS = false) : false = validS s := by simp only [validS, h0, h, Bool.false_or, Bool.false_and]
theorem validS_all {s : Stt} (h0 : eqS s zS = false) (h1 : s.valid = true) : validS s = ((decide (s.outcome = 1 ∨ s.outcome = 2)) && (decide (s.source ≥ 0) && (decide (s.source ≤ 2) && (decide (s.stamp ≥ 0) && (decide (s.stamp ≤ 65535) && (decide (s.address ≥ 0) && (decide (s.address < 1048576) && (s.chips.fdiv (2 ^ 40) == 0)))))))) := by
  simp only [validS, h0, h1, in8, Bool.false_or, Bool.true_and, fdiv40]
  have e1 : decide (s.outcome = 1 ∨ s.outcome = 2) = (decide (1 ≤ s.outcome) && decide (s.outcome ≤ 2)) := by rw [Bool.eq_iff_iff]; simp; omega
  have e2 : decide (s.address < 1048576) = decide (s.address ≤ 1048575) := by rw [Bool.eq_iff_iff]; simp; omega
  rw [e1, e2]
  simp only [ge_iff_le, Bool.and_assoc]
set_option maxRecDepth 10000 in
theorem validR_fc (s : Stt) : FC Try.prog 18 [.o (.a (stC s))] [] (boo (validS s)) [] := by
  refine FC.b mix Try.func18 ?_
  refine And.intro (by kernel_rfl) ?_
  refine bsel_intro (fun h0 => ?_) (fun h0 => ?_)
  · exact ⟨congrArg boo (show true = validS s by rw [validS, show eqS s zS = true from h0]; rfl), trivial⟩
  replace h0 : eqS s zS = false := h0
  refine bsel_intro (fun h1 => ?_) (fun h1 => ?_)
  rotate_left
  · exact ⟨congrArg boo (fv h1 h0), trivial⟩
  rw [validS_all h0 h1]
  refine bselE (fun h2 => ?_) (fun h2 => ?_)
  rotate_left
  refine bselE (fun h2' => ?_) (fun h2' => ?_)
  rotate_left
  · exact ⟨congrArg boo (by simp [h2, h2']), trivial⟩
  all_goals
    refine bselD (fun h3 => ?_) (fun h3 => ?_)
    rotate_left
    · exact ⟨congrArg boo (by simp [h3]), trivial⟩
    refine bselD (fun h4 => ?_) (fun h4 => ?_)
    rotate_left
    · exact ⟨congrArg boo (by simp [h4]), trivial⟩
    refine bselD (fun h5 => ?_) (fun h5 => ?_)
    rotate_left
    · exact ⟨congrArg boo (by simp [h5]), trivial⟩
    refine bselD (fun h6 => ?_) (fun h6 => ?_)
    rotate_left
    · exact ⟨congrArg boo (by simp [h6]), trivial⟩
    refine bselD (fun h7 => ?_) (fun h7 => ?_)
    rotate_left
    · exact ⟨congrArg boo (by simp [h7]), trivial⟩
    refine bselD (fun h8 => ?_) (fun h8 => ?_)
    rotate_left
    · exact ⟨congrArg boo (by simp [h8]), trivial⟩
    refine And.intro (by decide) ?_
    refine ⟨congrArg boo ?_, trivial⟩
    simp only [h2, h3, h4, h5, h6, h7, h8]
    first | rfl | (simp only [h2', or_true, decide_true, Bool.true_and]; rfl)
end Go.Sx.T1
namespace Go.Sx.T1
open Go.Proofs
set_option maxRecDepth 10000 in
theorem bit_fc (c : Bool) (n : Nat) (hn : n < 64) : FC Try.prog 23 [boo c, int .i64 n] [] (int .u64 (cond c ((2 ^ n : Nat) : Int) 0)) [] := by
  refine FC.b mix Try.func23 ?_
  refine bsel_intro (fun h => ?_) (fun h => ?_)
  · refine And.intro (by omega) ?_
    refine ⟨congrArg (int .u64) ?_, trivial⟩
    have e : min (n : Int).toNat IntKind.u64.bits = n := by show min (n : Int).toNat 64 = n; omega
    have hp : 2 ^ n < 18446744073709551616 := by exact Nat.pow_lt_pow_right (by omega) hn
    rw [e, h, show (1 : Int) = ((1 : Nat) : Int) from rfl, shl_u64, Nat.one_mul, Nat.mod_eq_of_lt hp]
    rfl
  · subst h; exact ⟨rfl, trivial⟩

theorem word4 {st ad so ou : Nat} (h1 : st ≤ 65535) (h2 : ad < 1048576) (h3 : so ≤ 2) (h4 : ou ≤ 2) :
    bitI .or .u64 (bitI .or .u64 (bitI .or .u64 (IntKind.u64.wrap (st : Int)) (IntKind.u64.wrap (IntKind.u64.wrap (ad : Int) * 2 ^ min (Int.toNat 16) IntKind.u64.bits)))
      (IntKind.u64.wrap (IntKind.u64.wrap (so : Int) * 2 ^ min (Int.toNat 58) IntKind.u64.bits)))
      (IntKind.u64.wrap (IntKind.u64.wrap (ou : Int) * 2 ^ min (Int.toNat 60) IntKind.u64.bits)) = ((st + ad * 2 ^ 16 + so * 2 ^ 58 + ou * 2 ^ 60 : Nat) : Int) := by
  have e1 : min (Int.toNat 16) IntKind.u64.bits = 16 := rfl
  have e2 : min (Int.toNat 58) IntKind.u64.bits = 58 := rfl
  have e3 : min (Int.toNat 60) IntKind.u64.bits = 60 := rfl
  rw [e1, e2, e3]
  simp only [wrap_u64_nat, shl_u64]
  rw [Nat.mod_eq_of_lt (a := st) (by omega), Nat.mod_eq_of_lt (a := ad) (by omega), Nat.mod_eq_of_lt (a := so) (by omega), Nat.mod_eq_of_lt (a := ou) (by omega),
    Nat.mod_eq_of_lt (a := ad * 2 ^ 16) (by omega), Nat.mod_eq_of_lt (a := so * 2 ^ 58) (by omega), Nat.mod_eq_of_lt (a := ou * 2 ^ 60) (by omega)]
  rw [or_u64 (by omega) (by omega), or_add (by omega), or_u64 (by omega) (by omega), or_add (by omega), or_u64 (by omega) (by omega), or_add (by omega)]
theorem word1 {a k : Nat} (c : Bool) (h : a < 2 ^ k) (hk : k < 64) : bitI .or .u64 (a : Int) (cond c ((2 ^ k : Nat) : Int) 0) = ((a + cond c (2 ^ k) 0 : Nat) : Int) := by
  have hp : 2 ^ k < 18446744073709551616 := by exact Nat.pow_lt_pow_right (by omega) hk
  cases c with
  | true =>
    show bitI .or .u64 (a : Int) ((2 ^ k : Nat) : Int) = _
    rw [or_u64 (by omega) hp]
    have := or_add (b := 1) h
    rw [Nat.one_mul] at this
    rw [this]; rfl
  | false =>
    show bitI .or .u64 (a : Int) ((0 : Nat) : Int) = _
    rw [or_u64 (by omega) (by omega), Nat.or_zero]; rfl

structure Stt.Fits (s : Stt) : Prop where
  st : 0 ≤ s.stamp ∧ s.stamp ≤ 65535
  ad : 0 ≤ s.address ∧ s.address < 1048576
  so : 0 ≤ s.source ∧ s.source ≤ 2
  ou : 0 ≤ s.outcome ∧ s.outcome ≤ 2
def wordS (s : Stt) : Nat := s.stamp.toNat + s.address.toNat * 2 ^ 16 + s.source.toNat * 2 ^ 58 + s.outcome.toNat * 2 ^ 60 + cond s.overflow (2 ^ 62) 0 + cond s.valid (2 ^ 63) 0

theorem word_eq (s : Stt) (hs : s.Fits) : bitI .or .u64 (bitI .or .u64 (bitI .or .u64 (bitI .or .u64 (bitI .or .u64 (IntKind.u64.wrap s.stamp) (IntKind.u64.wrap (IntKind.u64.wrap s.address * 2 ^ min (Int.toNat 16) IntKind.u64.bits)))
      (IntKind.u64.wrap (IntKind.u64.wrap s.source * 2 ^ min (Int.toNat 58) IntKind.u64.bits)))
      (IntKind.u64.wrap (IntKind.u64.wrap s.outcome * 2 ^ min (Int.toNat 60) IntKind.u64.bits))) (cond s.overflow ((2 ^ 62 : Nat) : Int) 0)) (cond s.valid ((2 ^ 63 : Nat) : Int) 0) = (wordS s : Nat) := by
  obtain ⟨v, o, ou, so, st, ad, ch⟩ := s
  obtain ⟨⟨a1, a2⟩, ⟨b1, b2⟩, ⟨c1, c2⟩, d1, d2⟩ := hs
  simp only at a1 a2 b1 b2 c1 c2 d1 d2
  obtain ⟨ou, rfl⟩ := Int.eq_ofNat_of_zero_le d1
  obtain ⟨so, rfl⟩ := Int.eq_ofNat_of_zero_le c1
  obtain ⟨st, rfl⟩ := Int.eq_ofNat_of_zero_le a1
  obtain ⟨ad, rfl⟩ := Int.eq_ofNat_of_zero_le b1
  simp only
  have ho : cond o (2 ^ 62) 0 ≤ 4611686018427387904 := by cases o <;> decide
  rw [word4 (by omega) (by omega) (by omega) (by omega), word1 (k := 62) _ (by omega) (by omega), word1 (k := 63) _ (by omega) (by omega)]
  rfl

set_option maxRecDepth 10000 in
theorem word_fc (s : Stt) (hs : s.Fits) : FC Try.prog 20 [.o (.a (stC s))] [] (int .u64 (wordS s : Nat)) [] := by
  refine FC.b mix Try.func20 ?_
  refine And.intro (by decide) (And.intro (by decide) (And.intro (by decide) ?_))
  refine FC.u (bit_fc s.overflow 62 (by omega)) [] ?_
  refine FC.u (bit_fc s.valid 63 (by omega)) [] ?_
  refine And.intro (by kernel_rfl) ?_
  exact ⟨congrArg (int .u64) (word_eq s hs), trivial⟩

end Go.Sx.T1
namespace Go.Sx.T1
open Go.Proofs
def wordP (s : Stt) : SV × SV × SV := if validS s then (int .u64 (wordS s : Nat), int .u64 s.chips, int .i64 0) else (int .u64 0, int .u64 0, int .i64 1)
theorem validS_fits {s : Stt} (h : validS s = true) : s.Fits := by
  simp only [validS, in8, Bool.or_eq_true, Bool.and_eq_true, decide_eq_true_eq] at h
  rcases h with h | h
  · rw [eqS_iff] at h; subst h
    exact ⟨⟨by decide, by decide⟩, ⟨by decide, by decide⟩, ⟨by decide, by decide⟩, by decide, by decide⟩
  · exact ⟨h.2.2.2.1, by omega, h.2.2.1, by omega, by omega⟩
def packA (s : Stt) : Int := cond (validS s) (wordS s : Nat) 0
def packB (s : Stt) : Int := cond (validS s) s.chips 0
def packE (s : Stt) : Int := cond (validS s) 0 1
def tup3 (a b c : Int) : SV := .t [.c (.v (.int .u64 a)), .c (.v (.int .u64 b)), .c (.v (.int .i64 c))]
set_option maxRecDepth 10000 in
theorem pack_fc (s : Stt) : FC Try.prog 14 [.o (.a (stC s))] [] (tup3 (packA s) (packB s) (packE s)) [] := by
  refine FC.b mix Try.func14 ?_
  refine FC.u (valid_fc s) [] ?_
  refine bselNot ?_
  refine bsel_intro (fun h => ?_) (fun h => ?_)
  · refine FC.u (word_fc s (validS_fits h)) [] ?_
    refine And.intro (by kernel_rfl) ?_
    exact ⟨show tup3 _ _ _ = _ by simp only [packA, packB, packE, h, cond], trivial⟩
  · exact ⟨show tup3 _ _ _ = _ by simp only [packA, packB, packE, h, cond], trivial⟩
set_option maxRecDepth 10000 in
theorem packR_fc (s : Stt) : FC Try.prog 13 [.o (.a (stC s))] [] (tup3 (packA s) (packB s) (packE s)) [] := by
  refine FC.b mix Try.func13 ?_
  refine FC.u (validR_fc s) [] ?_
  refine bselNot ?_
  refine bsel_intro (fun h => ?_) (fun h => ?_)
  · refine And.intro (by decide) (And.intro (by decide) (And.intro (by decide) ?_))
    refine bsel_intro (fun h1 => ?_) (fun h1 => ?_)
    all_goals refine bsel_intro (fun h2 => ?_) (fun h2 => ?_)
    all_goals refine And.intro (by kernel_rfl) ?_
    all_goals refine ⟨show tup3 _ _ _ = _ from ?_, trivial⟩
    all_goals simp only [packA, packB, packE, h, cond, ← word_eq s (validS_fits h), h1, h2, or_zero_u64]
    all_goals rfl
  · exact ⟨show tup3 _ _ _ = _ by simp only [packA, packB, packE, h, cond], trivial⟩
end Go.Sx.T1
namespace Go.Sx.T1
open Go.Proofs
def uR (a b : Int) : Stt := ⟨a.fdiv (2 ^ min (Int.toNat 63) IntKind.u64.bits) == 1, bitI BinOp.and IntKind.u64 (a.fdiv (2 ^ min (Int.toNat 62) IntKind.u64.bits)) 1 == 1,
  IntKind.i64.wrap (bitI BinOp.and IntKind.u64 (a.fdiv (2 ^ min (Int.toNat 60) IntKind.u64.bits)) 3), IntKind.i64.wrap (bitI BinOp.and IntKind.u64 (a.fdiv (2 ^ min (Int.toNat 58) IntKind.u64.bits)) 3),
  IntKind.i64.wrap (bitI BinOp.and IntKind.u64 a 65535), IntKind.i64.wrap (bitI BinOp.and IntKind.u64 (a.fdiv (2 ^ min (Int.toNat 16) IntKind.u64.bits)) 16777215), b⟩
def okU (a b : Int) : Bool := validS (uR a b) && ((wordS (uR a b) : Int) == a)
def unA (a b : Int) : Stt := cond (okU a b) (uR a b) zS
def unE (a b : Int) : Int := cond (okU a b) 0 12
def tupU (s : Stt) (e : Int) : SV := .t [.a (stC s), .c (.v (.int .i64 e))]
set_option maxRecDepth 10000 in
theorem unpack_fc (a b : Int) : FC Try.prog 15 [int .u64 a, int .u64 b] [] (tupU (unA a b) (unE a b)) [] := by
  refine FC.b mix Try.func15 ?_
  refine And.intro (by decide) (And.intro (by decide) (And.intro (by decide) (And.intro (by decide) (And.intro (by decide) ?_))))
  refine FC.u (valid_fc (uR a b)) [] ?_
  refine bsel_intro (fun h => ?_) (fun h => ?_)
  · replace h : validS (uR a b) = false := by simpa using h
    exact ⟨show tupU zS 12 = tupU (unA a b) (unE a b) by simp only [unA, unE, okU, h, cond, Bool.false_and], trivial⟩
  · replace h : validS (uR a b) = true := by simpa using h
    refine FC.u (word_fc (uR a b) (validS_fits h)) [] ?_
    refine bselN (fun h2 => ?_) (fun h2 => ?_)
    · exact ⟨show tupU zS 12 = tupU (unA a b) (unE a b) by simp only [unA, unE, okU, h, cond, Bool.true_and, beq_eq_false_iff_ne.2 h2], trivial⟩
    · exact ⟨show tupU (uR a b) 0 = tupU (unA a b) (unE a b) by simp only [unA, unE, okU, h, cond, Bool.true_and, beq_iff_eq.2 h2], trivial⟩
set_option maxRecDepth 10000 in
theorem unpackR_fc (a b : Int) : FC Try.prog 16 [int .u64 a, int .u64 b] [] (tupU (unA a b) (unE a b)) [] := by
  refine FC.b mix Try.func16 ?_
  refine And.intro (by decide) (And.intro (by decide) (And.intro (by decide) (And.intro (by decide) (And.intro (by decide) ?_))))
  refine FC.u (packR_fc (uR a b)) [] ?_
  refine bsel_intro (fun h => ?_) (fun h => ?_)
  · have hv : validS (uR a b) = false := by
      cases hv : validS (uR a b) with
      | false => rfl
      | true => simp [packE, hv] at h
    exact ⟨show tupU zS 12 = tupU (unA a b) (unE a b) by simp only [unA, unE, okU, hv, cond, Bool.false_and], trivial⟩
  have hv : validS (uR a b) = true := by
    cases hv : validS (uR a b) with
    | false => simp [packE, hv] at h
    | true => rfl
  have eA : packA (uR a b) = (wordS (uR a b) : Int) := by simp only [packA, hv, cond]
  have eB : packB (uR a b) = b := by simp only [packB, hv, cond]; rfl
  refine bselN (fun h2 => ?_) (fun h2 => ?_)
  · rw [eA] at h2
    exact ⟨show tupU zS 12 = tupU (unA a b) (unE a b) by simp only [unA, unE, okU, hv, cond, Bool.true_and, beq_eq_false_iff_ne.2 h2], trivial⟩
  rw [eA] at h2
  refine bselN (fun h3 => absurd eB h3) (fun h3 => ?_)
  exact ⟨show tupU (uR a b) 0 = tupU (unA a b) (unE a b) by simp only [unA, unE, okU, hv, cond, Bool.true_and, beq_iff_eq.2 h2], trivial⟩
end Go.Sx.T1
namespace Go.Sx.T1
open Go.Proofs
set_option maxRecDepth 10000 in
theorem light_fc (ts : List Int) : FC Try.prog 6 [.o (.c (.s 0 0 ts.length 1))] [diceL ts] (boo (decide (ts.length ≤ 400))) [diceL ts] := by
  refine FC.b mix Try.func6 ?_
  exact ⟨congrArg boo (show decide ((ts.length : Int) ≤ 400) = decide (ts.length ≤ 400) by rw [Bool.eq_iff_iff]; simp; omega), rfl, trivial⟩
set_option maxRecDepth 10000 in
theorem roll_fc (ts : List Int) : FC Try.prog 8 [.o (.c (.s 0 0 ts.length 1))] [diceL ts] (.o (.c (.p 1 0 0))) [diceL ts, some ⟨.box [.s 0 0 ts.length 1, .v (.int .i64 0)], true⟩] := by
  refine FC.b mix Try.func8 ?_
  exact ⟨rfl, rfl, rfl, trivial⟩
def sA : Stt := ⟨true, false, 1, 0, 2, 3, 5⟩
theorem sA_eq : tup3 (packA sA) (packB sA) (packE sA) = tup3 10376293541461819394 5 0 := by kernel_rfl
theorem sB_eq : tupU (unA 4611686018427387904 0) (unE 4611686018427387904 0) = tupU zS 12 := by kernel_rfl
set_option maxRecDepth 10000 in
theorem awake_fc : FC Try.prog 7 [] [] (boo true) [] := by
  refine FC.b mix Try.func7 ?_
  refine FC.u (sA_eq ▸ pack_fc sA) [] ?_
  refine FC.u (sB_eq ▸ unpack_fc 4611686018427387904 0) [] ?_
  exact ⟨rfl, trivial⟩
end Go.Sx.T1
namespace Go.Sx.T1
open Go.Proofs

theorem dStatus_valid (ts : List Int) (k : Nat) (a : Int) (h0 : 0 ≤ a) (h1 : a < 1048576) : validS (dStatus ts k a) = true := by
  have b1 := dv_bd ts (k + 1) (n := 2) (by omega)
  have b2 := dv_bd ts (k + 2) (n := 3) (by omega)
  have b3 := dv_bd ts (k + 3) (n := 20) (by omega)
  have b4 := dv_bd ts (k + 4) (n := 4) (by omega)
  have b5 := dv_bd ts (k + 5) (n := 1048576) (by omega)
  have hs : 0 ≤ [0, 1, dv ts (k + 3) 20, 65535].getD (dv ts (k + 4) 4).toNat 0 ∧ [0, 1, dv ts (k + 3) 20, 65535].getD (dv ts (k + 4) 4).toNat 0 ≤ 65535 := by
    have : (dv ts (k + 4) 4).toNat = 0 ∨ (dv ts (k + 4) 4).toNat = 1 ∨ (dv ts (k + 4) 4).toNat = 2 ∨ (dv ts (k + 4) 4).toNat = 3 := by omega
    rcases this with h | h | h | h <;> rw [h]
    · show (0 : Int) ≤ 0 ∧ (0 : Int) ≤ 65535; omega
    · show (0 : Int) ≤ 1 ∧ (1 : Int) ≤ 65535; omega
    · show 0 ≤ dv ts (k + 3) 20 ∧ dv ts (k + 3) 20 ≤ 65535; omega
    · show (0 : Int) ≤ 65535 ∧ (65535 : Int) ≤ 65535; omega
  simp only [validS, in8, Bool.or_eq_true, Bool.and_eq_true, decide_eq_true_eq, beq_iff_eq]
  refine .inr ⟨rfl, ?_, ?_, hs, ?_, ?_⟩
  · show 1 ≤ 1 + dv ts (k + 1) 2 ∧ 1 + dv ts (k + 1) 2 ≤ 2; omega
  · show 0 ≤ dv ts (k + 2) 3 ∧ dv ts (k + 2) 3 ≤ 2; omega
  · show 0 ≤ a ∧ a ≤ 1048575; omega
  · show dv ts (k + 5) 1048576 / 1099511627776 = 0; omega
end Go.Sx.T1
namespace Go.Sx.T1
theorem wordS_num (s : Stt) : wordS s = s.stamp.toNat + s.address.toNat * 65536 + s.source.toNat * 288230376151711744 + s.outcome.toNat * 1152921504606846976 + cond s.overflow 4611686018427387904 0 + cond s.valid 9223372036854775808 0 := by
  simp only [wordS, Nat.reducePow]
theorem dig {k a b a' b' : Nat} (ha : a < k) (ha' : a' < k) (h : a + b * k = a' + b' * k) : a = a' ∧ b = b' := by
  have h1 := congrArg (· % k) h
  simp only [Nat.add_mul_mod_self_right, Nat.mod_eq_of_lt ha, Nat.mod_eq_of_lt ha'] at h1
  subst h1
  exact ⟨rfl, Nat.eq_of_mul_eq_mul_right (by omega) (Nat.add_left_cancel h)⟩
theorem cond01 (b : Bool) (n : Nat) : cond b n 0 = cond b 1 0 * n := by cases b <;> simp
theorem wordS_dig (s : Stt) : wordS s = s.stamp.toNat + (s.address.toNat + (s.source.toNat + (s.outcome.toNat + (cond s.overflow 1 0 + cond s.valid 1 0 * 2) * 4) * 4) * 4398046511104) * 65536 := by
  rw [wordS_num, cond01 s.overflow, cond01 s.valid]
  simp only [Nat.add_mul, Nat.mul_assoc, Nat.reduceMul, ← Nat.add_assoc]
theorem bit_lt (b : Bool) : cond b 1 0 < 2 := by cases b <;> decide
theorem bit_inj {b c : Bool} (h : cond b 1 0 = cond c 1 0) : b = c := by cases b <;> cases c <;> simp_all
theorem wordS_inj {s t : Stt} (hs : s.Fits) (ht : t.Fits) (h : wordS s = wordS t) : s.valid = t.valid ∧ s.overflow = t.overflow ∧ s.outcome = t.outcome ∧ s.source = t.source ∧ s.stamp = t.stamp ∧ s.address = t.address := by
  obtain ⟨⟨a1, a2⟩, ⟨b1, b2⟩, ⟨c1, c2⟩, d1, d2⟩ := hs
  obtain ⟨⟨e1, e2⟩, ⟨f1, f2⟩, ⟨g1, g2⟩, i1, i2⟩ := ht
  have s1 : s.stamp.toNat < 65536 := by clear h; omega
  have t1 : t.stamp.toNat < 65536 := by clear h; omega
  have s2 : s.address.toNat < 4398046511104 := by clear h; omega
  have t2 : t.address.toNat < 4398046511104 := by clear h; omega
  have s3 : s.source.toNat < 4 := by clear h; omega
  have t3 : t.source.toNat < 4 := by clear h; omega
  have s4 : s.outcome.toNat < 4 := by clear h; omega
  have t4 : t.outcome.toNat < 4 := by clear h; omega
  rw [wordS_dig, wordS_dig] at h
  obtain ⟨h1, h⟩ := dig s1 t1 h
  obtain ⟨h2, h⟩ := dig s2 t2 h
  obtain ⟨h3, h⟩ := dig s3 t3 h
  obtain ⟨h4, h⟩ := dig s4 t4 h
  obtain ⟨h5, h6⟩ := dig (bit_lt _) (bit_lt _) h
  clear h s1 t1 s2 t2 s3 t3 s4 t4
  refine ⟨bit_inj h6, bit_inj h5, ?_, ?_, ?_, ?_⟩ <;> clear h5 h6 <;> omega
theorem word_law {x y : Stt} (hx : validS x = true) (hy : validS y = true) {wx wy : Int} (ex : wx = (wordS x : Nat)) (ey : wy = (wordS y : Nat)) :
    (wx = wy → ((x.chips == y.chips) == eqS x y) = true) ∧ (wx ≠ wy → (false == eqS x y) = true) := by
  constructor
  · intro h
    have h' : wordS x = wordS y := by omega
    obtain ⟨h1, h2, h3, h4, h5, h6⟩ := wordS_inj (validS_fits hx) (validS_fits hy) h'
    simp [eqS, h1, h2, h3, h4, h5, h6]
  · intro h
    cases he : eqS x y with
    | false => rfl
    | true =>
      rw [eqS_iff] at he
      subst he
      omega
end Go.Sx.T1
namespace Go.Sx.T1
theorem and_m {a m k : Nat} (e : m = 2 ^ k - 1) (ha : a < 18446744073709551616) (hm : m < 18446744073709551616) : bitI .and .u64 (a : Int) (m : Int) = ((a % 2 ^ k : Nat) : Int) := by
  rw [and_u64 ha hm, e, and_mask]
theorem w64 {n : Nat} (h : n < 9223372036854775808) : IntKind.i64.wrap (n : Int) = n := wrap64_in (by omega) (by omega)
theorem uR_nat (a : Nat) (b : Int) (ha : a < 18446744073709551616) : uR a b = ⟨((a / 9223372036854775808 : Nat) : Int) == 1, ((a / 4611686018427387904 % 2 : Nat) : Int) == 1,
    ((a / 1152921504606846976 % 4 : Nat) : Int), ((a / 288230376151711744 % 4 : Nat) : Int), ((a % 65536 : Nat) : Int), ((a / 65536 % 16777216 : Nat) : Int), b⟩ := by
  have e63 : min (Int.toNat 63) IntKind.u64.bits = 63 := rfl
  have e62 : min (Int.toNat 62) IntKind.u64.bits = 62 := rfl
  have e60 : min (Int.toNat 60) IntKind.u64.bits = 60 := rfl
  have e58 : min (Int.toNat 58) IntKind.u64.bits = 58 := rfl
  have e16 : min (Int.toNat 16) IntKind.u64.bits = 16 := rfl
  have lt : ∀ k, a / k < 18446744073709551616 := fun k => Nat.lt_of_le_of_lt (Nat.div_le_self a k) ha
  have ml : ∀ x m : Nat, 0 < m → m ≤ 16777216 → x % m < 9223372036854775808 := fun x m h h2 => Nat.lt_of_lt_of_le (Nat.mod_lt x h) (by omega)
  unfold uR
  rw [e63, e62, e60, e58, e16, fdiv_nat, fdiv_nat, fdiv_nat, fdiv_nat, fdiv_nat,
    show (1 : Int) = ((1 : Nat) : Int) from rfl, show (3 : Int) = ((3 : Nat) : Int) from rfl, show (65535 : Int) = ((65535 : Nat) : Int) from rfl, show (16777215 : Int) = ((16777215 : Nat) : Int) from rfl,
    and_m (k := 1) rfl (lt _) (by omega), and_m (k := 2) rfl (lt _) (by omega), and_m (k := 2) rfl (lt _) (by omega), and_m (k := 16) rfl ha (by omega), and_m (k := 24) rfl (lt _) (by omega),
    w64 (ml _ _ (by decide) (by decide)), w64 (ml _ _ (by decide) (by decide)), w64 (ml _ _ (by decide) (by decide)), w64 (ml _ _ (by decide) (by decide))]

theorem dv_lo {k a b : Nat} (h : a < k) : (a + b * k) / k = b := by rw [Nat.add_mul_div_right _ _ (by omega), Nat.div_eq_of_lt h, Nat.zero_add]
theorem md_lo {k a b : Nat} (h : a < k) : (a + b * k) % k = a := by rw [Nat.add_mul_mod_self_right, Nat.mod_eq_of_lt h]
theorem wordS_read (s : Stt) (hs : s.Fits) : wordS s % 65536 = s.stamp.toNat ∧ wordS s / 65536 % 16777216 = s.address.toNat ∧ wordS s / 288230376151711744 % 4 = s.source.toNat ∧ wordS s / 1152921504606846976 % 4 = s.outcome.toNat ∧
    wordS s / 4611686018427387904 % 2 = cond s.overflow 1 0 ∧ wordS s / 9223372036854775808 = cond s.valid 1 0 ∧ wordS s < 18446744073709551616 := by
  obtain ⟨⟨a1, a2⟩, ⟨b1, b2⟩, ⟨c1, c2⟩, d1, d2⟩ := hs
  have hd := wordS_dig s
  have hn := wordS_num s
  have ho := bit_lt s.overflow
  have hv := bit_lt s.valid
  generalize cond s.overflow 1 0 = o at *
  generalize cond s.valid 1 0 = v at *
  generalize hst : s.stamp.toNat = st at *
  generalize had : s.address.toNat = ad at *
  generalize hso : s.source.toNat = so at *
  generalize hou : s.outcome.toNat = ou at *
  have st_lt : st < 65536 := by omega
  have ad_lt : ad < 4398046511104 := by omega
  have so_lt : so < 4 := by omega
  have ou_lt : ou < 4 := by omega
  have ad_lt2 : ad < 1048576 := by omega
  clear hn hst had hso hou a1 a2 b1 c1 c2 d1 d2
  have h16 : wordS s / 65536 = ad + (so + (ou + (o + v * 2) * 4) * 4) * 4398046511104 := by rw [hd, dv_lo st_lt]
  have h58 : wordS s / 288230376151711744 = so + (ou + (o + v * 2) * 4) * 4 := by
    rw [show 288230376151711744 = 65536 * 4398046511104 from rfl, ← Nat.div_div_eq_div_mul, h16, dv_lo ad_lt]
  have h60 : wordS s / 1152921504606846976 = ou + (o + v * 2) * 4 := by
    rw [show 1152921504606846976 = 288230376151711744 * 4 from rfl, ← Nat.div_div_eq_div_mul, h58, dv_lo so_lt]
  have h62 : wordS s / 4611686018427387904 = o + v * 2 := by
    rw [show 4611686018427387904 = 1152921504606846976 * 4 from rfl, ← Nat.div_div_eq_div_mul, h60, dv_lo ou_lt]
  have h63 : wordS s / 9223372036854775808 = v := by
    rw [show 9223372036854775808 = 4611686018427387904 * 2 from rfl, ← Nat.div_div_eq_div_mul, h62, dv_lo ho]
  refine ⟨by rw [hd, md_lo st_lt], ?_, by rw [h58, md_lo so_lt], by rw [h60, md_lo ou_lt], by rw [h62, md_lo ho], h63, ?_⟩
  · rw [h16, show ∀ X : Nat, X * 4398046511104 = X * 262144 * 16777216 from fun X => by rw [Nat.mul_assoc], Nat.add_mul_mod_self_right, Nat.mod_eq_of_lt]
    omega
  · have := Nat.div_add_mod (wordS s) 9223372036854775808
    have := Nat.mod_lt (wordS s) (show 0 < 9223372036854775808 by decide)
    omega
theorem cond_eq1 (b : Bool) : (((cond b 1 0 : Nat) : Int) == 1) = b := by cases b <;> rfl
theorem uR_word (s : Stt) (hs : s.Fits) : uR (wordS s : Nat) s.chips = s := by
  obtain ⟨h1, h2, h3, h4, h5, h6, h7⟩ := wordS_read s hs
  rw [uR_nat _ _ h7, h1, h2, h3, h4, h5, h6, cond_eq1, cond_eq1, Int.toNat_of_nonneg hs.st.1, Int.toNat_of_nonneg hs.ad.1, Int.toNat_of_nonneg hs.so.1, Int.toNat_of_nonneg hs.ou.1]
theorem unpack_same {s : Stt} (h : validS s = true) {w : Int} (hw : w = (wordS s : Nat)) : FC Go.Proofs.Try.prog 15 [int .u64 w, int .u64 s.chips] [] (tupU s 0) [] := by
  have := unpack_fc w s.chips
  have e := uR_word s (validS_fits h)
  rw [← hw] at e
  simp only [unA, unE, okU, e, h, ← hw, beq_self_eq_true, Bool.and_self, cond] at this
  exact this
theorem unpack_g (a b : Int) : ∃ p : Stt × Int, FC Go.Proofs.Try.prog 15 [int .u64 a, int .u64 b] [] (tupU p.1 p.2) [] ∧ ((p.2 = 12 ∧ p.1 = zS) ∨ (p.2 = 0 ∧ validS p.1 = true ∧ (wordS p.1 : Int) = a ∧ p.1.chips = b)) := by
  refine ⟨(unA a b, unE a b), unpack_fc a b, ?_⟩
  simp only [unA, unE]
  cases h : okU a b with
  | false => exact .inl ⟨rfl, rfl⟩
  | true =>
    simp only [okU, Bool.and_eq_true, beq_iff_eq] at h
    exact .inr ⟨rfl, h.1, h.2, rfl⟩
theorem unpackR_g (a b : Int) (p : Stt × Int) (h : p = (unA a b, unE a b)) : FC Go.Proofs.Try.prog 16 [int .u64 a, int .u64 b] [] (tupU p.1 p.2) [] := by
  subst h; exact unpackR_fc a b
end Go.Sx.T1
namespace Go.Sx.T1
open Go.Proofs
theorem next_x (ts : List Int) (k : Nat) (n : Int) (hn : n < 9223372036854775808) (hl : ts.length ≤ 400) :
    ∃ v, FC Try.prog 10 [.o (.c (.p 0 0 0)), int .i64 n] [diceB ts k, diceL ts] (int .i64 v) [diceB ts (k + 1), diceL ts] ∧ v = dv ts k n := ⟨_, next_fc ts k n hn hl, rfl⟩
theorem one_x (ts : List Int) (k : Nat) (n : Int) (hn : n < 9223372036854775808) (hn1 : 1 ≤ n) (hl : ts.length ≤ 400) :
    ∃ v, FC Try.prog 11 [.o (.c (.p 0 0 0)), int .i64 n] [diceB ts k, diceL ts] (boo v) [diceB ts (k + 1), diceL ts] ∧ v = (dv ts k n == n - 1) := ⟨_, one_fc ts k n hn hn1 hl, rfl⟩
theorem status_x (ts : List Int) (k : Nat) (a : Int) (hl : ts.length ≤ 400) (h0 : 0 ≤ a) (h1 : a < 1048576) :
    ∃ s, FC Try.prog 9 [.o (.c (.p 0 0 0)), int .i64 a] [diceB ts k, diceL ts] (.o (.a (stC s))) [diceB ts (k + 6), diceL ts] ∧ validS s = true ∧ s = dStatus ts k a := ⟨_, status_fc ts k a hl, dStatus_valid ts k a h0 h1, rfl⟩
theorem pack_x {s : Stt} (h : validS s = true) : ∃ w, FC Try.prog 14 [.o (.a (stC s))] [] (tup3 w s.chips 0) [] ∧ w = (wordS s : Nat) := by
  have := pack_fc s
  simp only [packA, packB, packE, h, cond] at this
  exact ⟨_, this, rfl⟩
theorem restamp_valid {x : Stt} (hx : validS x = true) (hv : x.valid = true) {n : Int} (h0 : 0 ≤ n) (h3 : n < 3) :
    validS { x with stamp := (IntKind.i64.wrap (x.stamp + n)).tmod 65536 } = true := by
  have hf := validS_fits hx
  rw [wrap64_in (by have := hf.st; omega) (by have := hf.st; omega), Int.tmod_eq_emod_of_nonneg (by have := hf.st; omega)]
  have hz : eqS x zS = false := by
    cases h : eqS x zS with
    | false => rfl
    | true => rw [eqS_iff] at h; subst h; exact absurd hv (by decide)
  simp only [validS, hz, hv, in8, Bool.false_or, Bool.true_and, Bool.and_eq_true, Bool.or_eq_true, decide_eq_true_eq, beq_iff_eq] at hx ⊢
  exact .inr ⟨hx.1, hx.2.1, by omega, hx.2.2.2⟩
set_option maxRecDepth 10000 in
theorem law5 (ts : List Int) : FC Try.prog 5 [.o (.c (.s 0 0 ts.length 1))] [diceL ts] (boo true) [diceL ts] := by
  refine FC.b mix Try.func5 ?_
  refine FC.u (light_fc ts) [0] ?_
  refine bselNot ?_
  refine bsel_intro (fun h => ?_) (fun h => ?_)
  rotate_left
  · refine FC.u awake_fc [] ?_
    exact ⟨rfl, rfl, trivial⟩
  have hl : ts.length ≤ 400 := of_decide_eq_true h
  refine FC.u (roll_fc ts) [0] ?_
  refine FC.x (next_x ts 0 300 (by omega) hl) [1, 0] (fun n1 e1 => ?_)
  have a0 := dv_bd ts 0 (n := 300) (by omega)
  refine FC.x (status_x ts 1 n1 hl (by omega) (by omega)) [1, 0] (fun x ⟨vx, ex⟩ => ?_)
  have hv : x.valid = true := by rw [ex]; rfl
  refine FC.x (next_x ts 7 300 (by omega) hl) [1, 0] (fun n2 e2 => ?_)
  have a1 := dv_bd ts 7 (n := 300) (by omega)
  refine FC.x (status_x ts 8 n2 hl (by omega) (by omega)) [1, 0] (fun y ⟨vy, _⟩ => ?_)
  refine FC.x (one_x ts 14 2 (by omega) (by omega) hl) [1, 0] (fun o eo => ?_)
  refine bsel_intro (fun h1 => ?_) (fun h1 => ?_)
  · refine FC.x (next_x ts 15 3 (by omega) hl) [1, 0] (fun n3 e3 => ?_)
    have a3 := dv_bd ts 15 (n := 3) (by omega)
    refine And.intro (by decide) ?_
    refine And.intro (by kernel_rfl) ?_
    have vy2 := restamp_valid vx hv (n := n3) (by omega) (by omega)
    refine FC.x (pack_x vx) [] (fun wx hwx => ?_)
    refine FC.x (pack_x vy2) [] (fun wy hwy => ?_)
    refine FC.u awake_fc [] ?_
    refine bselE (fun hA => ?_) (fun hA => ?_)
    · refine And.intro (by kernel_rfl) ?_
      exact ⟨congrArg boo ((word_law vx vy2 hwx hwy).1 hA), rfl, trivial⟩
    · refine And.intro (by kernel_rfl) ?_
      exact ⟨congrArg boo ((word_law vx vy2 hwx hwy).2 hA), rfl, trivial⟩
  · refine FC.x (pack_x vx) [] (fun wx hwx => ?_)
    refine FC.x (pack_x vy) [] (fun wy hwy => ?_)
    refine FC.u awake_fc [] ?_
    refine bselE (fun hA => ?_) (fun hA => ?_)
    · refine And.intro (by kernel_rfl) ?_
      exact ⟨congrArg boo ((word_law vx vy hwx hwy).1 hA), rfl, trivial⟩
    · refine And.intro (by kernel_rfl) ?_
      exact ⟨congrArg boo ((word_law vx vy hwx hwy).2 hA), rfl, trivial⟩
end Go.Sx.T1
namespace Go.Sx.T1
open Go.Proofs
theorem flip_ne {s x : Stt} (vs : validS s = true) {w : Int} (hw : w = (wordS s : Nat)) {bit : Int} (hb : -9223372036854775808 ≤ bit ∧ bit ≤ 9223372036854775807)
    (hx : (wordS x : Int) = bitI BinOp.xor IntKind.u64 w (IntKind.u64.wrap (1 * 2 ^ min (IntKind.u64.wrap (mMod bit 64)).toNat IntKind.u64.bits))) : x ≠ s := by
  intro e
  subst e
  have hm := mMod_bd (n := bit) (m := 64) (by omega)
  rw [wrapU64_in (n := mMod bit 64) (by omega) (by omega)] at hx
  obtain ⟨k, hk⟩ := Int.eq_ofNat_of_zero_le hm.1
  rw [hk] at hx hm
  have hk64 : k < 64 := by omega
  have hw7 := (wordS_read x (validS_fits vs)).2.2.2.2.2.2
  have hp : 2 ^ k < 18446744073709551616 := by exact Nat.pow_lt_pow_right (by omega) hk64
  rw [show min (k : Int).toNat IntKind.u64.bits = k by show min (k : Int).toNat 64 = k; omega, show (1 : Int) = ((1 : Nat) : Int) from rfl, shl_u64, Nat.one_mul, Nat.mod_eq_of_lt hp, hw, xor_u64 hw7 hp] at hx
  have hx' : wordS x = wordS x ^^^ 2 ^ k := by exact_mod_cast hx
  have := congrArg (fun n => n.testBit k) hx'
  simp only [Nat.testBit_xor, Nat.testBit_two_pow_self] at this
  cases h : (wordS x).testBit k <;> simp [h] at this
set_option maxRecDepth 10000 in
theorem law4 (ts : List Int) (bit : Int) (hb : -9223372036854775808 ≤ bit ∧ bit ≤ 9223372036854775807) : FC Try.prog 4 [.o (.c (.s 0 0 ts.length 1)), int .i64 bit] [diceL ts] (boo true) [diceL ts] := by
  refine FC.b mix Try.func4 ?_
  refine FC.u (light_fc ts) [0] ?_
  refine bselNot ?_
  refine bsel_intro (fun h => ?_) (fun h => ?_)
  rotate_left
  · refine FC.u awake_fc [] ?_
    exact ⟨rfl, rfl, trivial⟩
  have hl : ts.length ≤ 400 := of_decide_eq_true h
  refine FC.u (roll_fc ts) [0] ?_
  refine FC.x (next_x ts 0 1048576 (by omega) hl) [1, 0] (fun n1 e1 => ?_)
  have a0 := dv_bd ts 0 (n := 1048576) (by omega)
  refine FC.x (status_x ts 1 n1 hl (by omega) (by omega)) [1, 0] (fun s ⟨vs, es⟩ => ?_)
  refine FC.x (one_x ts 7 9 (by omega) (by omega) hl) [1, 0] (fun o eo => ?_)
  refine bsel_intro (fun h1 => ?_) (fun h1 => ?_)
  · have vz : validS zS = true := by decide
    refine FC.x (pack_x vz) [] (fun w hw => ?_)
    refine FC.u (unpack_same vz hw) [] ?_
    refine FC.u awake_fc [] ?_
    refine And.intro (by kernel_rfl) ?_
    refine FC.u (mod_fc bit 64 (by omega)) [] ?_
    refine And.intro ?_ ?_
    · have hb2 := mMod_bd (n := bit) (m := 64) (by omega)
      rw [wrapU64_in (by omega) (by omega)]; omega
    refine FC.x (unpack_g _ _) [] (fun p hp => ?_)
    obtain ⟨x, f⟩ := p
    rcases hp with ⟨hf, hx⟩ | ⟨hf, hv, hw', hc⟩
    · replace hf : f = 12 := hf
      replace hx : x = zS := hx
      subst hf
      subst hx
      refine And.intro (by kernel_rfl) ?_
      exact ⟨rfl, rfl, trivial⟩
    · replace hf : f = 0 := hf
      subst hf
      refine FC.x (pack_x hv) [] (fun w2 hw2 => ?_)
      refine bselE (fun hA => ?_) (fun hA => ?_)
      rotate_left
      · exact absurd (hw2.trans hw') hA
      refine bselE (fun hB => ?_) (fun hB => ?_)
      rotate_left
      · exact absurd hc hB
      refine And.intro (by kernel_rfl) ?_
      refine bselNot ?_
      refine bsel_intro (fun hE => ?_) (fun hE => ?_)
      · exact absurd (eqS_iff.1 (show eqS x zS = true from hE)) (flip_ne vz hw hb hw')
      · refine FC.u (validR_fc x) [] ?_
        exact ⟨congrArg boo hv, rfl, trivial⟩
  · refine FC.x (pack_x vs) [] (fun w hw => ?_)
    refine FC.u (unpack_same vs hw) [] ?_
    refine FC.u awake_fc [] ?_
    refine And.intro (by kernel_rfl) ?_
    refine bselNot ?_
    refine bsel_intro (fun hz => ?_) (fun hz => absurd ((eqS_self s).symm.trans hz) (by decide))
    refine FC.u (mod_fc bit 64 (by omega)) [] ?_
    refine And.intro ?_ ?_
    · have hb2 := mMod_bd (n := bit) (m := 64) (by omega)
      rw [wrapU64_in (by omega) (by omega)]; omega
    refine FC.x (unpack_g _ _) [] (fun p hp => ?_)
    obtain ⟨x, f⟩ := p
    rcases hp with ⟨hf, hx⟩ | ⟨hf, hv, hw', hc⟩
    · replace hf : f = 12 := hf
      replace hx : x = zS := hx
      subst hf
      subst hx
      refine And.intro (by kernel_rfl) ?_
      exact ⟨rfl, rfl, trivial⟩
    · replace hf : f = 0 := hf
      subst hf
      refine FC.x (pack_x hv) [] (fun w2 hw2 => ?_)
      refine bselE (fun hA => ?_) (fun hA => ?_)
      rotate_left
      · exact absurd (hw2.trans hw') hA
      refine bselE (fun hB => ?_) (fun hB => ?_)
      rotate_left
      · exact absurd hc hB
      refine And.intro (by kernel_rfl) ?_
      refine bselNot ?_
      refine bsel_intro (fun hE => ?_) (fun hE => ?_)
      · exact absurd (eqS_iff.1 hE) (flip_ne vs hw hb hw')
      · refine FC.u (validR_fc x) [] ?_
        exact ⟨congrArg boo hv, rfl, trivial⟩
end Go.Sx.T1
namespace Go.Sx.T1
open Go.Proofs
def w2C (a b : Int) : List C := [.v (.int .u64 a), .v (.int .u64 b)]
theorem oddStatus_x (ts : List Int) (k : Nat) (s : Stt) (hl : ts.length ≤ 400) :
    ∃ p : Stt × Nat, FC Try.prog 12 [.o (.c (.p 0 0 0)), .o (.a (stC s))] [diceB ts k, diceL ts] (.o (.a (stC p.1))) [diceB ts p.2, diceL ts] ∧ True := ⟨(_, _), oddStatus_fc ts k s hl, trivial⟩
theorem packR_x (s : Stt) : ∃ p : Int × Int × Int, FC Try.prog 13 [.o (.a (stC s))] [] (tup3 p.1 p.2.1 p.2.2) [] ∧ FC Try.prog 14 [.o (.a (stC s))] [] (tup3 p.1 p.2.1 p.2.2) [] := ⟨(_, _, _), packR_fc s, pack_fc s⟩
theorem unpack_x2 (a b : Int) : ∃ p : Stt × Int, FC Try.prog 15 [int .u64 a, int .u64 b] [] (tupU p.1 p.2) [] ∧ FC Try.prog 16 [int .u64 a, int .u64 b] [] (tupU p.1 p.2) [] := ⟨(_, _), unpack_fc a b, unpackR_fc a b⟩
theorem pack_x2 (s : Stt) : ∃ p : Int × Int × Int, FC Try.prog 14 [.o (.a (stC s))] [] (tup3 p.1 p.2.1 p.2.2) [] ∧ FC Try.prog 13 [.o (.a (stC s))] [] (tup3 p.1 p.2.1 p.2.2) [] := ⟨(_, _, _), pack_fc s, packR_fc s⟩
set_option maxHeartbeats 1600000 in
set_option maxRecDepth 10000 in
theorem law3 (s : Stt) (wa wb : Int) (ts : List Int) : FC Try.prog 3 [.o (.a (stC s)), .o (.a (w2C wa wb)), .o (.c (.s 0 0 ts.length 1))] [diceL ts] (boo true) [diceL ts] := by
  refine FC.bj mix Try.func3 ?_
  refine FC.u (light_fc ts) [0] ?_
  refine bselNot ?_
  refine bsel_intro (fun h => ?_) (fun h => ?_)
  rotate_left
  · refine FC.u awake_fc [] ?_
    exact ⟨rfl, rfl, trivial⟩
  have hl : ts.length ≤ 400 := of_decide_eq_true h
  refine FC.u (roll_fc ts) [0] ?_
  refine FC.x (next_x ts 0 1048576 (by omega) hl) [3, 0] (fun n1 e1 => ?_)
  have a0 := dv_bd ts 0 (n := 1048576) (by omega)
  refine FC.x (status_x ts 1 n1 hl (by omega) (by omega)) [3, 0] (fun x ⟨_, _⟩ => ?_)
  refine AJoin.cut (X := Stt × Nat) (fun _ => True) [2, 3, 4, 7, 8] [0, 1, 2] (fun _ => []) (fun p => [(3, ⟨.box [.s 0 0 ts.length 1, .v (.int .i64 (min p.2 ts.length : Nat))], true⟩), (4, ⟨.box (stC p.1), true⟩)]) ?_ ?_
  · refine FC.x (one_x ts 7 2 (by omega) (by omega) hl) [3, 0] (fun o _ => ?_)
    refine bsel_intro (fun h1 => ?_) (fun h1 => ?_)
    · refine FC.x (oddStatus_x ts 8 x hl) [3, 0] (fun p _ => ?_)
      exact ⟨p, trivial, ⟨trivial, rfl⟩, ⟨.inl rfl, .inl rfl, trivial⟩, rfl⟩
    · exact ⟨(x, 8), trivial, ⟨trivial, rfl⟩, ⟨.inl rfl, .inl rfl, trivial⟩, rfl⟩
  · intro p _
    obtain ⟨x, k⟩ := p
    refine FC.x (next_x ts k 1048576 (by omega) hl) [3, 0] (fun n2 e2 => ?_)
    have a2 := dv_bd ts k (n := 1048576) (by omega)
    refine FC.x (status_x ts (k + 1) n2 hl (by omega) (by omega)) [3, 0] (fun y ⟨_, _⟩ => ?_)
    refine FC.x (packR_x y) [] (fun q _ => ?_)
    refine FC.x (next_x ts (k + 7) 64 (by omega) hl) [3, 0] (fun n3 e3 => ?_)
    have a3 := dv_bd ts (k + 7) (n := 64) (by omega)
    refine And.intro (by rw [wrapU64_in (by omega) (by omega)]; omega) ?_
    refine AJoin.cut (X := Int × Int × Nat) (fun _ => True) [3, 4, 7, 8] [0, 1, 2, 4] (fun p => [(9, int .u64 p.1), (10, int .u64 p.2.1)]) (fun p => [(3, ⟨.box [.s 0 0 ts.length 1, .v (.int .i64 (min p.2.2 ts.length : Nat))], true⟩)]) ?_ ?_
    · refine FC.x (one_x ts (k + 8) 3 (by omega) (by omega) hl) [3, 0] (fun o2 _ => ?_)
      refine bsel_intro (fun h2 => ?_) (fun h2 => ?_)
      · refine FC.x (next_x ts (k + 9) 64 (by omega) hl) [3, 0] (fun n4 e4 => ?_)
        have a4 := dv_bd ts (k + 9) (n := 64) (by omega)
        refine And.intro (by rw [wrapU64_in (by omega) (by omega)]; omega) ?_
        exact ⟨(_, _, k + 10), trivial, ⟨⟨rfl, rfl, trivial⟩, rfl⟩, ⟨.inl rfl, trivial⟩, rfl⟩
      · exact ⟨(_, _, k + 9), trivial, ⟨⟨rfl, rfl, trivial⟩, rfl⟩, ⟨.inl rfl, trivial⟩, rfl⟩
    · intro p _
      obtain ⟨va, vb, k⟩ := p
      refine And.intro (by kernel_rfl) ?_
      refine ALoop.mk (X := Nat) (fun i => i ≤ 2) (fun i => 2 - i) [12, 13] [0, 5, 6] (fun i => [(14, int .i64 i)]) (fun _ => []) 0 (by omega) ⟨rfl, trivial⟩ trivial ?_
      intro i hi
      obtain rfl | rfl | rfl : i = 0 ∨ i = 1 ∨ i = 2 := by omega
      · repeat (first | refine And.intro (by kernel_rfl) ?_ | refine And.intro (by decide) ?_)
        refine FC.x (pack_x2 s) [] (fun q hq => ?_)
        repeat (first | refine And.intro (by kernel_rfl) ?_ | refine And.intro (by decide) ?_)
        refine FC.u hq [] ?_
        repeat (first | refine And.intro (by kernel_rfl) ?_ | refine And.intro (by decide) ?_)
        refine FC.x (unpack_x2 wa wb) [] (fun r hr => ?_)
        repeat (first | refine And.intro (by kernel_rfl) ?_ | refine And.intro (by decide) ?_)
        refine FC.u hr [] ?_
        repeat (first | refine And.intro (by kernel_rfl) ?_ | refine And.intro (by decide) ?_)
        refine bselN (fun h => absurd rfl h) (fun _ => ?_)
        refine bselN (fun h => absurd rfl h) (fun _ => ?_)
        refine bselN (fun h => absurd rfl h) (fun _ => ?_)
        refine bselN (fun h => absurd rfl h) (fun _ => ?_)
        repeat (first | refine And.intro (by kernel_rfl) ?_ | refine And.intro (by decide) ?_)
        refine bselNot ?_
        refine bsel_intro (fun _ => ?_) (fun h => absurd ((eqS_self r.1).symm.trans h) (by decide))
        exact ⟨1, ⟨by decide, by decide⟩, ⟨⟨rfl, trivial⟩, rfl⟩, trivial, rfl⟩
      · repeat (first | refine And.intro (by kernel_rfl) ?_ | refine And.intro (by decide) ?_)
        refine FC.x (pack_x2 x) [] (fun q hq => ?_)
        repeat (first | refine And.intro (by kernel_rfl) ?_ | refine And.intro (by decide) ?_)
        refine FC.u hq [] ?_
        repeat (first | refine And.intro (by kernel_rfl) ?_ | refine And.intro (by decide) ?_)
        refine FC.x (unpack_x2 va vb) [] (fun r hr => ?_)
        repeat (first | refine And.intro (by kernel_rfl) ?_ | refine And.intro (by decide) ?_)
        refine FC.u hr [] ?_
        repeat (first | refine And.intro (by kernel_rfl) ?_ | refine And.intro (by decide) ?_)
        refine bselN (fun h => absurd rfl h) (fun _ => ?_)
        refine bselN (fun h => absurd rfl h) (fun _ => ?_)
        refine bselN (fun h => absurd rfl h) (fun _ => ?_)
        refine bselN (fun h => absurd rfl h) (fun _ => ?_)
        repeat (first | refine And.intro (by kernel_rfl) ?_ | refine And.intro (by decide) ?_)
        refine bselNot ?_
        refine bsel_intro (fun _ => ?_) (fun h => absurd ((eqS_self r.1).symm.trans h) (by decide))
        exact ⟨2, ⟨by decide, by decide⟩, ⟨⟨rfl, trivial⟩, rfl⟩, trivial, rfl⟩
      · refine FC.u awake_fc [] ?_
        exact ⟨rfl, rfl, trivial⟩
end Go.Sx.T1
