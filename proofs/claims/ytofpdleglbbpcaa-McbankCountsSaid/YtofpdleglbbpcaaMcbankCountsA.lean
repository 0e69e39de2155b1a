/- Contracts of the functions that McbankCounts reaches, and the walk of the law, part 1. Conditions: none. -/
import Derived.Test.YtofpdleglbbpcaaSxTwo
import Derived.Test.YtofpdleglbbpcaaChecked
namespace Go.Sx.T1
open Go.Proofs

theorem mix : Try.prog.follows .mixedOrders = true := by kernel_rfl

def mMod (n m : Int) : Int := if m < 1 then 0 else n % m

theorem tmod_fix (n m : Int) (h : 1 ≤ m) : (n.tmod m < 0 → n.tmod m + m = n % m) ∧ (¬ n.tmod m < 0 → n.tmod m = n % m) := by
  have h1 := Int.emod_lt_of_pos n (show 0 < m by omega)
  have h2 := Int.emod_nonneg n (show m ≠ 0 by omega)
  rw [Int.tmod_eq_emod]
  split <;> omega

set_option maxRecDepth 10000 in
theorem mod_fc (n m : Int) (hm : m < 9223372036854775808) : FC Try.prog 14 [int .i64 n, int .i64 m] [] (int .i64 (mMod n m)) [] := by
  refine FC.b mix Try.func14 ?_
  refine bselD (fun h => ?_) (fun h => ?_)
  · exact ⟨congrArg (int .i64) (by simp [mMod, h]), trivial⟩
  · refine ⟨by omega, ?_⟩
    have hlt := Int.tmod_lt_of_pos n (show 0 < m by omega)
    have hgt := Int.lt_tmod_of_pos n (show 0 < m by omega)
    have e := tmod_fix n m (by omega)
    refine bselD (fun h2 => ?_) (fun h2 => ?_)
    · refine ⟨congrArg (int .i64) ?_, trivial⟩
      rw [wrap64_in (by omega) (by omega)]
      simp only [mMod, h, if_false]
      exact e.1 h2
    · exact ⟨congrArg (int .i64) (by simp [mMod, h]; exact e.2 h2), trivial⟩

/-- the dice: name 0 the two fields, name 1 the numbers; k numbers have been asked for -/
def diceB (ts : List Int) (k : Nat) : Option Blk := some ⟨.box [.s 1 0 ts.length 1, .v (.int .i64 (min k ts.length : Nat))], true⟩
def diceL (ts : List Int) : Option Blk := some ⟨.ints .i64 ts, false⟩
def dv (ts : List Int) (k : Nat) (n : Int) : Int := mMod (ts.getD k 0) n

set_option maxRecDepth 10000 in
theorem next_fc (ts : List Int) (k : Nat) (n : Int) (hn : n < 9223372036854775808) (hl : ts.length ≤ 400) :
    FC Try.prog 9 [.o (.c (.p 0 0 0)), int .i64 n] [diceB ts k, diceL ts] (int .i64 (dv ts k n)) [diceB ts (k + 1), diceL ts] := by
  refine FC.b mix Try.func9 ?_
  refine ⟨by kernel_rfl, ?_⟩
  refine bselD (fun h => ?_) (fun h => ?_)
  · have h' : ts.length ≤ k := by omega
    refine ⟨congrArg (int .i64) ?_, congrArg some ?_, rfl, trivial⟩
    · simp [dv, h', mMod]
    · simp [Nat.min_eq_right h', Nat.min_eq_right (Nat.le_succ_of_le h')]
  · have h' : k < ts.length := by omega
    have e : min k ts.length = k := Nat.min_eq_left (by omega)
    have e2 : min (k + 1) ts.length = k + 1 := Nat.min_eq_left (by omega)
    have w1 : IntKind.i64.wrap ((k : Int) + 1) = (k : Int) + 1 := wrap64_in (by omega) (by omega)
    have w2 : IntKind.i64.wrap ((k : Int) + 1 - 1) = (k : Int) := by rw [wrap64_in (by omega) (by omega)]; omega
    skip
    refine ⟨⟨?_, ?_⟩, ?_, ?_⟩
    · rw [e, w1, w2]; omega
    · rw [e, w1, w2]; omega
    · rw [e, w1, w2]; omega
    refine FC.use (mod_fc (ts.getD k 0) n hn) [] (congrArg (fun x => [int .i64 (ts.getD x 0), int .i64 n]) ?_) rfl trivial rfl rfl trivial ?_
    · rw [e, w1, w2]; simp
    refine ⟨by kernel_rfl, ?_⟩
    refine ⟨congrArg (int .i64) ?_, congrArg some ?_, rfl, trivial⟩
    · rfl
    · rw [e, w1, e2]; rfl
end Go.Sx.T1
namespace Go.Sx.T1
open Go.Proofs
set_option maxRecDepth 10000 in
theorem light_fc (ts : List Int) : FC Try.prog 6 [.o (.c (.s 0 0 ts.length 1))] [diceL ts] (boo (decide (ts.length ≤ 400))) [diceL ts] := by
  refine FC.b mix Try.func6 ?_
  exact ⟨congrArg boo (show decide ((ts.length : Int) ≤ 400) = decide (ts.length ≤ 400) by rw [Bool.eq_iff_iff]; simp; omega), rfl, trivial⟩
set_option maxRecDepth 10000 in
theorem roll_fc (ts : List Int) : FC Try.prog 8 [.o (.c (.s 0 0 ts.length 1))] [diceL ts] (.o (.c (.p 1 0 0))) [diceL ts, some ⟨.box [.s 0 0 ts.length 1, .v (.int .i64 0)], true⟩] := by
  refine FC.b mix Try.func8 ?_
  exact ⟨rfl, rfl, rfl, trivial⟩
theorem mMod_bd {n m : Int} (h : 1 ≤ m) : 0 ≤ mMod n m ∧ mMod n m < m := by
  unfold mMod
  rw [if_neg (by omega)]
  exact ⟨Int.emod_nonneg n (by omega), Int.emod_lt_of_pos n (by omega)⟩
theorem dv_bd (ts : List Int) (k : Nat) {n : Int} (h : 1 ≤ n) : 0 ≤ dv ts k n ∧ dv ts k n < n := mMod_bd h

set_option maxRecDepth 10000 in
theorem one_fc (ts : List Int) (k : Nat) (n : Int) (hn : n < 9223372036854775808) (hn1 : 1 ≤ n) (hl : ts.length ≤ 400) :
    FC Try.prog 10 [.o (.c (.p 0 0 0)), int .i64 n] [diceB ts k, diceL ts] (boo (dv ts k n == n - 1)) [diceB ts (k + 1), diceL ts] := by
  refine FC.b mix Try.func10 ?_
  refine FC.use (next_fc ts k n hn hl) [0, 1] rfl rfl ⟨rfl, trivial, trivial⟩ rfl rfl ⟨rfl, rfl, trivial⟩ ?_
  exact ⟨congrArg (fun x => boo (dv ts k n == x)) (wrap64_in (by omega) (by omega)), rfl, rfl, trivial⟩

theorem next_x (ts : List Int) (k : Nat) (n : Int) (hn : n < 9223372036854775808) (hl : ts.length ≤ 400) :
    ∃ v, FC Try.prog 9 [.o (.c (.p 0 0 0)), int .i64 n] [diceB ts k, diceL ts] (int .i64 v) [diceB ts (k + 1), diceL ts] ∧ v = dv ts k n := ⟨_, next_fc ts k n hn hl, rfl⟩
theorem one_x (ts : List Int) (k : Nat) (n : Int) (hn : n < 9223372036854775808) (hn1 : 1 ≤ n) (hl : ts.length ≤ 400) :
    ∃ v, FC Try.prog 10 [.o (.c (.p 0 0 0)), int .i64 n] [diceB ts k, diceL ts] (boo v) [diceB ts (k + 1), diceL ts] ∧ v = (dv ts k n == n - 1) := ⟨_, one_fc ts k n hn hn1 hl, rfl⟩
end Go.Sx.T1
namespace Go.Sx.T1
open Go.Proofs

structure Stt where
  valid : Bool
  overflow : Bool
  outcome : Int
  source : Int
  stamp : Int
  address : Int
  chips : Int

def stC (s : Stt) : List C := [.v (.bool s.valid), .v (.bool s.overflow), .v (.int .i64 s.outcome), .v (.int .i64 s.source), .v (.int .i64 s.stamp), .v (.int .i64 s.address), .v (.int .u64 s.chips)]
def dStatus (ts : List Int) (k : Nat) (a : Int) : Stt :=
  ⟨true, dv ts k 3 == 3 - 1, 1 + dv ts (k + 1) 2, dv ts (k + 2) 3, [0, 1, dv ts (k + 3) 20, 65535].getD (dv ts (k + 4) 4).toNat 0, a, dv ts (k + 5) 1048576⟩

set_option maxRecDepth 10000 in
theorem status_fc (ts : List Int) (k : Nat) (a : Int) (hl : ts.length ≤ 400) :
    FC Try.prog 11 [.o (.c (.p 0 0 0)), int .i64 a] [diceB ts k, diceL ts] (.o (.a (stC (dStatus ts k a)))) [diceB ts (k + 6), diceL ts] := by
  refine FC.b mix Try.func11 ?_
  refine FC.use (one_fc ts k 3 (by omega) (by omega) hl) [0, 1] rfl rfl ⟨rfl, trivial, trivial⟩ rfl rfl ⟨rfl, rfl, trivial⟩ ?_
  refine FC.use (next_fc ts (k + 1) 2 (by omega) hl) [0, 1] rfl rfl ⟨rfl, trivial, trivial⟩ rfl rfl ⟨rfl, rfl, trivial⟩ ?_
  refine FC.use (next_fc ts (k + 2) 3 (by omega) hl) [0, 1] rfl rfl ⟨rfl, trivial, trivial⟩ rfl rfl ⟨rfl, rfl, trivial⟩ ?_
  refine FC.use (next_fc ts (k + 3) 20 (by omega) hl) [0, 1] rfl rfl ⟨rfl, trivial, trivial⟩ rfl rfl ⟨rfl, rfl, trivial⟩ ?_
  refine FC.use (next_fc ts (k + 4) 4 (by omega) hl) [0, 1] rfl rfl ⟨rfl, trivial, trivial⟩ rfl rfl ⟨rfl, rfl, trivial⟩ ?_
  have b := dv_bd ts (k + 4) (n := 4) (by omega)
  refine And.intro b (And.intro (by simp; omega) ?_)
  refine FC.use (next_fc ts (k + 5) 1048576 (by omega) hl) [0, 1] rfl rfl ⟨rfl, trivial, trivial⟩ rfl rfl ⟨rfl, rfl, trivial⟩ ?_
  refine And.intro (by kernel_rfl) ?_
  have b1 := dv_bd ts (k + 1) (n := 2) (by omega)
  have b5 := dv_bd ts (k + 5) (n := 1048576) (by omega)
  refine ⟨?_, rfl, rfl, trivial⟩
  show SV.o (.a _) = _
  rw [wrap64_in (n := 1 + dv ts (k + 1) 2) (by omega) (by omega), wrapU64_in (n := dv ts (k + 5) 1048576) (by omega) (by omega), Nat.zero_add]
  rfl
end Go.Sx.T1
namespace Go.Sx.T1
open Go.Proofs

def oddV (ts : List Int) (k : Nat) : Int := [-1, 0, 1, 2, 3, 4, 65535, 65536, 1048575, 1048576].getD (dv ts k 10).toNat 0
def oddS (ts : List Int) (k : Nat) (s : Stt) : Stt :=
  let v := oddV ts k
  let c := dv ts (k + 1) 6
  if c = 0 then { s with valid := !s.valid }
  else if c = 1 then { s with outcome := v }
  else if c = 2 then { s with source := v }
  else if c = 3 then { s with stamp := v }
  else if c = 4 then { s with address := v }
  else { s with chips := [549755813888, 1099511627776, 9223372036854775808].getD (dv ts (k + 2) 3).toNat 0 }
def oddK (ts : List Int) (k : Nat) : Nat := if dv ts (k + 1) 6 = 0 ∨ dv ts (k + 1) 6 = 1 ∨ dv ts (k + 1) 6 = 2 ∨ dv ts (k + 1) 6 = 3 ∨ dv ts (k + 1) 6 = 4 then k + 2 else k + 3

set_option maxRecDepth 10000 in
theorem oddStatus_fc (ts : List Int) (k : Nat) (s : Stt) (hl : ts.length ≤ 400) :
    FC Try.prog 12 [.o (.c (.p 0 0 0)), .o (.a (stC s))] [diceB ts k, diceL ts] (.o (.a (stC (oddS ts k s)))) [diceB ts (oddK ts k), diceL ts] := by
  refine FC.b mix Try.func12 ?_
  refine FC.u (next_fc ts k 10 (by omega) hl) [0, 1] ?_
  have b := dv_bd ts k (n := 10) (by omega)
  have b2 := dv_bd ts (k + 2) (n := 3) (by omega)
  refine And.intro b (And.intro (by simp; omega) ?_)
  refine FC.u (next_fc ts (k + 1) 6 (by omega) hl) [0, 1] ?_
  refine bselE (fun h0 => ?_) (fun h0 => ?_)
  · exact ⟨congrArg (fun x => SV.o (.a (stC x))) (show ({ s with valid := !s.valid } : Stt) = oddS ts k s by simp only [oddS, if_pos h0]), congrArg (diceB ts) (show k + 2 = oddK ts k by unfold oddK; rw [if_pos (by omega)]), rfl, trivial⟩
  refine bselE (fun h1 => ?_) (fun h1 => ?_)
  · exact ⟨congrArg (fun x => SV.o (.a (stC x))) (show ({ s with outcome := [-1, 0, 1, 2, 3, 4, 65535, 65536, 1048575, 1048576].getD (0 + (dv ts k 10).toNat) 0 } : Stt) = oddS ts k s by simp only [oddS, if_neg h0, if_pos h1, oddV, Nat.zero_add]), congrArg (diceB ts) (show k + 2 = oddK ts k by unfold oddK; rw [if_pos (by omega)]), rfl, trivial⟩
  refine bselE (fun h2 => ?_) (fun h2 => ?_)
  · exact ⟨congrArg (fun x => SV.o (.a (stC x))) (show ({ s with source := [-1, 0, 1, 2, 3, 4, 65535, 65536, 1048575, 1048576].getD (0 + (dv ts k 10).toNat) 0 } : Stt) = oddS ts k s by simp only [oddS, if_neg h0, if_neg h1, if_pos h2, oddV, Nat.zero_add]), congrArg (diceB ts) (show k + 2 = oddK ts k by unfold oddK; rw [if_pos (by omega)]), rfl, trivial⟩
  refine bselE (fun h3 => ?_) (fun h3 => ?_)
  · exact ⟨congrArg (fun x => SV.o (.a (stC x))) (show ({ s with stamp := [-1, 0, 1, 2, 3, 4, 65535, 65536, 1048575, 1048576].getD (0 + (dv ts k 10).toNat) 0 } : Stt) = oddS ts k s by simp only [oddS, if_neg h0, if_neg h1, if_neg h2, if_pos h3, oddV, Nat.zero_add]), congrArg (diceB ts) (show k + 2 = oddK ts k by unfold oddK; rw [if_pos (by omega)]), rfl, trivial⟩
  refine bselE (fun h4 => ?_) (fun h4 => ?_)
  · exact ⟨congrArg (fun x => SV.o (.a (stC x))) (show ({ s with address := [-1, 0, 1, 2, 3, 4, 65535, 65536, 1048575, 1048576].getD (0 + (dv ts k 10).toNat) 0 } : Stt) = oddS ts k s by simp only [oddS, if_neg h0, if_neg h1, if_neg h2, if_neg h3, if_pos h4, oddV, Nat.zero_add]), congrArg (diceB ts) (show k + 2 = oddK ts k by unfold oddK; rw [if_pos (by omega)]), rfl, trivial⟩
  refine FC.u (next_fc ts (k + 2) 3 (by omega) hl) [0, 1] ?_
  refine And.intro b2 (And.intro (by simp; omega) ?_)
  exact ⟨congrArg (fun x => SV.o (.a (stC x))) (show ({ s with chips := [549755813888, 1099511627776, 9223372036854775808].getD (0 + (dv ts (k + 2) 3).toNat) 0 } : Stt) = oddS ts k s by simp only [oddS, if_neg h0, if_neg h1, if_neg h2, if_neg h3, if_neg h4, Nat.zero_add]), congrArg (diceB ts) (show k + 3 = oddK ts k by unfold oddK; rw [if_neg (by omega)]), rfl, trivial⟩

def eqS (s t : Stt) : Bool := s.valid == t.valid && (s.overflow == t.overflow && (s.outcome == t.outcome && (s.source == t.source && (s.stamp == t.stamp && (s.address == t.address && (s.chips == t.chips && true))))))
def zS : Stt := ⟨false, false, 0, 0, 0, 0, 0⟩
theorem eqS_iff {s t : Stt} : eqS s t = true ↔ s = t := by
  obtain ⟨a, b, c, d, e, f, g⟩ := s
  obtain ⟨a', b', c', d', e', f', g'⟩ := t
  simp [eqS]
theorem eqS_self (s : Stt) : eqS s s = true := eqS_iff.2 rfl

set_option maxRecDepth 10000 in
theorem zero_fc (s : Stt) : FC Try.prog 23 [.o (.a (stC s))] [] (boo (eqS s zS)) [] := by
  refine FC.b mix Try.func23 ?_
  refine And.intro (by kernel_rfl) ?_
  exact ⟨rfl, trivial⟩
set_option maxRecDepth 10000 in
theorem between_fc (n a b : Int) : FC Try.prog 24 [int .i64 n, int .i64 a, int .i64 b] [] (boo (decide (a ≤ n) && decide (n ≤ b))) [] := by
  refine FC.b mix Try.func24 ?_
  refine bselD (fun h => ?_) (fun h => ?_)
  · exact ⟨congrArg boo (show decide (n ≤ b) = (decide (a ≤ n) && decide (n ≤ b)) by simp [show a ≤ n by omega]), trivial⟩
  · exact ⟨congrArg boo (show false = (decide (a ≤ n) && decide (n ≤ b)) by simp [show ¬ a ≤ n by omega]), trivial⟩

end Go.Sx.T1
namespace Go.Sx.T1
open Go.Proofs
def in8 (n a b : Int) : Bool := decide (a ≤ n) && decide (n ≤ b)
def validS (s : Stt) : Bool := eqS s zS || (s.valid && (in8 s.outcome 1 2 && (in8 s.source 0 2 && (in8 s.stamp 0 65535 && (in8 s.address 0 1048575 && s.chips / 1099511627776 == 0)))))
theorem fdiv40 (n : Int) : n.fdiv (2 ^ 40) = n / 1099511627776 := Int.fdiv_eq_ediv_of_nonneg _ (by decide)
set_option maxRecDepth 10000 in
theorem valid_fc (s : Stt) : FC Try.prog 21 [.o (.a (stC s))] [] (boo (validS s)) [] := by
  refine FC.b mix Try.func21 ?_
  refine FC.u (zero_fc s) [] ?_
  refine bsel_intro (fun h0 => ?_) (fun h0 => ?_)
  · exact ⟨congrArg boo (show true = validS s by simp [validS, h0]), trivial⟩
  refine bsel_intro (fun h1 => ?_) (fun h1 => ?_)
  rotate_left
  · exact ⟨congrArg boo (show false = validS s by simp [validS, h0, h1]), trivial⟩
  refine FC.u (between_fc s.outcome 1 2) [] ?_
  refine bsel_intro (fun h2 => ?_) (fun h2 => ?_)
  rotate_left
  · exact ⟨congrArg boo (show false = validS s by simp [validS, h0, in8, h2]), trivial⟩
  refine FC.u (between_fc s.source 0 2) [] ?_
  refine bsel_intro (fun h3 => ?_) (fun h3 => ?_)
  rotate_left
  · exact ⟨congrArg boo (show false = validS s by simp [validS, h0, in8, h3]), trivial⟩
  refine FC.u (between_fc s.stamp 0 65535) [] ?_
  refine bsel_intro (fun h4 => ?_) (fun h4 => ?_)
  rotate_left
  · exact ⟨congrArg boo (show false = validS s by simp [validS, h0, in8, h4]), trivial⟩
  refine FC.u (between_fc s.address 0 1048575) [] ?_
  refine bsel_intro (fun h5 => ?_) (fun h5 => ?_)
  rotate_left
  · exact ⟨congrArg boo (show false = validS s by simp [validS, h0, in8, h5]), trivial⟩
  refine And.intro (by decide) ?_
  refine And.intro (congrArg boo ?_) trivial
  simp only [validS, h0, in8, h1, h2, h3, h4, h5, Bool.false_or, Bool.true_and]
  rw [← fdiv40]; rfl
end Go.Sx.T1
namespace Go.Sx.T1
open Go.Proofs
theorem fv {s : Stt} (h : s.valid = false) (h0 : eqS s zS = false) : false = validS s := by simp only [validS, h0, h, Bool.false_or, Bool.false_and]
theorem validS_all {s : Stt} (h0 : eqS s zS = false) (h1 : s.valid = true) : validS s = ((decide (s.outcome = 1 ∨ s.outcome = 2)) && (decide (s.source ≥ 0) && (decide (s.source ≤ 2) && (decide (s.stamp ≥ 0) && (decide (s.stamp ≤ 65535) && (decide (s.address ≥ 0) && (decide (s.address < 1048576) && (s.chips.fdiv (2 ^ 40) == 0)))))))) := by
  simp only [validS, h0, h1, in8, Bool.false_or, Bool.true_and, fdiv40]
  have e1 : decide (s.outcome = 1 ∨ s.outcome = 2) = (decide (1 ≤ s.outcome) && decide (s.outcome ≤ 2)) := by rw [Bool.eq_iff_iff]; simp; omega
  have e2 : decide (s.address < 1048576) = decide (s.address ≤ 1048575) := by rw [Bool.eq_iff_iff]; simp; omega
  rw [e1, e2]
  simp only [ge_iff_le, Bool.and_assoc]
set_option maxRecDepth 10000 in
theorem validR_fc (s : Stt) : FC Try.prog 22 [.o (.a (stC s))] [] (boo (validS s)) [] := by
  refine FC.b mix Try.func22 ?_
  refine And.intro (by kernel_rfl) ?_
  refine bsel_intro (fun h0 => ?_) (fun h0 => ?_)
  · exact ⟨congrArg boo (show true = validS s by rw [validS, show eqS s zS = true from h0]; rfl), trivial⟩
  replace h0 : eqS s zS = false := h0
  refine bsel_intro (fun h1 => ?_) (fun h1 => ?_)
  rotate_left
  · exact ⟨congrArg boo (fv h1 h0), trivial⟩
  rw [validS_all h0 h1]
  refine bselE (fun h2 => ?_) (fun h2 => ?_)
  rotate_left
  refine bselE (fun h2' => ?_) (fun h2' => ?_)
  rotate_left
  · exact ⟨congrArg boo (by simp [h2, h2']), trivial⟩
  all_goals
    refine bselD (fun h3 => ?_) (fun h3 => ?_)
    rotate_left
    · exact ⟨congrArg boo (by simp [h3]), trivial⟩
    refine bselD (fun h4 => ?_) (fun h4 => ?_)
    rotate_left
    · exact ⟨congrArg boo (by simp [h4]), trivial⟩
    refine bselD (fun h5 => ?_) (fun h5 => ?_)
    rotate_left
    · exact ⟨congrArg boo (by simp [h5]), trivial⟩
    refine bselD (fun h6 => ?_) (fun h6 => ?_)
    rotate_left
    · exact ⟨congrArg boo (by simp [h6]), trivial⟩
    refine bselD (fun h7 => ?_) (fun h7 => ?_)
    rotate_left
    · exact ⟨congrArg boo (by simp [h7]), trivial⟩
    refine bselD (fun h8 => ?_) (fun h8 => ?_)
    rotate_left
    · exact ⟨congrArg boo (by simp [h8]), trivial⟩
    refine And.intro (by decide) ?_
    refine ⟨congrArg boo ?_, trivial⟩
    simp only [h2, h3, h4, h5, h6, h7, h8]
    first | rfl | (simp only [h2', or_true, decide_true, Bool.true_and]; rfl)
end Go.Sx.T1
namespace Go.Sx.T1
open Go.Proofs

theorem dStatus_valid (ts : List Int) (k : Nat) (a : Int) (h0 : 0 ≤ a) (h1 : a < 1048576) : validS (dStatus ts k a) = true := by
  have b1 := dv_bd ts (k + 1) (n := 2) (by omega)
  have b2 := dv_bd ts (k + 2) (n := 3) (by omega)
  have b3 := dv_bd ts (k + 3) (n := 20) (by omega)
  have b4 := dv_bd ts (k + 4) (n := 4) (by omega)
  have b5 := dv_bd ts (k + 5) (n := 1048576) (by omega)
  have hs : 0 ≤ [0, 1, dv ts (k + 3) 20, 65535].getD (dv ts (k + 4) 4).toNat 0 ∧ [0, 1, dv ts (k + 3) 20, 65535].getD (dv ts (k + 4) 4).toNat 0 ≤ 65535 := by
    have : (dv ts (k + 4) 4).toNat = 0 ∨ (dv ts (k + 4) 4).toNat = 1 ∨ (dv ts (k + 4) 4).toNat = 2 ∨ (dv ts (k + 4) 4).toNat = 3 := by omega
    rcases this with h | h | h | h <;> rw [h]
    · show (0 : Int) ≤ 0 ∧ (0 : Int) ≤ 65535; omega
    · show (0 : Int) ≤ 1 ∧ (1 : Int) ≤ 65535; omega
    · show 0 ≤ dv ts (k + 3) 20 ∧ dv ts (k + 3) 20 ≤ 65535; omega
    · show (0 : Int) ≤ 65535 ∧ (65535 : Int) ≤ 65535; omega
  simp only [validS, in8, Bool.or_eq_true, Bool.and_eq_true, decide_eq_true_eq, beq_iff_eq]
  refine .inr ⟨rfl, ?_, ?_, hs, ?_, ?_⟩
  · show 1 ≤ 1 + dv ts (k + 1) 2 ∧ 1 + dv ts (k + 1) 2 ≤ 2; omega
  · show 0 ≤ dv ts (k + 2) 3 ∧ dv ts (k + 2) 3 ≤ 2; omega
  · show 0 ≤ a ∧ a ≤ 1048575; omega
  · show dv ts (k + 5) 1048576 / 1099511627776 = 0; omega
theorem status_x (ts : List Int) (k : Nat) (a : Int) (hl : ts.length ≤ 400) (h0 : 0 ≤ a) (h1 : a < 1048576) :
    ∃ s, FC Try.prog 11 [.o (.c (.p 0 0 0)), int .i64 a] [diceB ts k, diceL ts] (.o (.a (stC s))) [diceB ts (k + 6), diceL ts] ∧ validS s = true ∧ s = dStatus ts k a := ⟨_, status_fc ts k a hl, dStatus_valid ts k a h0 h1, rfl⟩
theorem dStatus_is (ts : List Int) (k : Nat) (a : Int) : (dStatus ts k a).valid = true ∧ ((dStatus ts k a).outcome = 1 ∨ (dStatus ts k a).outcome = 2) := by
  have := dv_bd ts (k + 1) (n := 2) (by omega)
  refine ⟨rfl, ?_⟩
  show 1 + dv ts (k + 1) 2 = 1 ∨ 1 + dv ts (k + 1) 2 = 2
  omega
theorem status_v (ts : List Int) (k : Nat) (a : Int) (hl : ts.length ≤ 400) (h0 : 0 ≤ a) (h1 : a < 1048576) :
    ∃ s, FC Try.prog 11 [.o (.c (.p 0 0 0)), int .i64 a] [diceB ts k, diceL ts] (.o (.a (stC s))) [diceB ts (k + 6), diceL ts] ∧ validS s = true ∧ s.valid = true ∧ (s.outcome = 1 ∨ s.outcome = 2) :=
  ⟨_, status_fc ts k a hl, dStatus_valid ts k a h0 h1, dStatus_is ts k a⟩
theorem oddStatus_x (ts : List Int) (k : Nat) (s : Stt) (hl : ts.length ≤ 400) :
    ∃ p : Stt × Nat, FC Try.prog 12 [.o (.c (.p 0 0 0)), .o (.a (stC s))] [diceB ts k, diceL ts] (.o (.a (stC p.1))) [diceB ts p.2, diceL ts] ∧ True := ⟨(_, _), oddStatus_fc ts k s hl, trivial⟩
end Go.Sx.T1
namespace Go.Sx.T1
open Go.Proofs
structure Bnk where
  st : Stt
  next : Int
def bkC (b : Bnk) : List C := [.v (.bool b.st.valid), .v (.bool b.st.overflow), .v (.int .i64 b.st.outcome), .v (.int .i64 b.st.source), .v (.int .i64 b.st.stamp), .v (.int .i64 b.st.address), .v (.int .u64 b.st.chips), .v (.int .i64 b.next)]
def validB (b : Bnk) : Bool := validS b.st && in8 b.next 0 65535
set_option maxRecDepth 10000 in
theorem validB_fc (b : Bnk) : FC Try.prog 16 [.o (.a (bkC b))] [] (boo (validB b)) [] := by
  refine FC.b mix Try.func16 ?_
  refine FC.u (valid_fc b.st) [] ?_
  refine bsel_intro (fun h => ?_) (fun h => ?_)
  · refine FC.u (between_fc b.next 0 65535) [] ?_
    exact ⟨congrArg boo (show _ = validB b by simp [validB, h, in8]), trivial⟩
  · exact ⟨congrArg boo (show false = validB b by simp [validB, h]), trivial⟩
set_option maxRecDepth 10000 in
theorem validBR_fc (b : Bnk) : FC Try.prog 20 [.o (.a (bkC b))] [] (boo (validB b)) [] := by
  refine FC.b mix Try.func20 ?_
  refine FC.u (validR_fc b.st) [] ?_
  refine bsel_intro (fun h => ?_) (fun h => ?_)
  · refine bselD (fun h1 => ?_) (fun h1 => ?_)
    · exact ⟨congrArg boo (show _ = validB b by simp [validB, h, in8, show 0 ≤ b.next from h1]), trivial⟩
    · exact ⟨congrArg boo (show false = validB b by simp [validB, in8, show ¬ 0 ≤ b.next from h1]), trivial⟩
  · exact ⟨congrArg boo (show false = validB b by simp [validB, h]), trivial⟩

def fresh0 (s : Stt) : Stt := { s with stamp := 0, overflow := false }
def okNote (s : Stt) : Bool := validS (fresh0 s) && s.valid
def nS (b : Bnk) (s : Stt) : Stt := { s with stamp := b.next, overflow := false }
def noteB (b : Bnk) (s : Stt) : Bnk :=
  if validB b = false then b else if okNote s = false then b else
  if b.st.valid = false then ⟨nS b s, (b.next + 1) % 65536⟩
  else if b.st.outcome = 1 ∧ s.outcome = 2 then ⟨{ nS b s with overflow := true }, (b.next + 1) % 65536⟩
  else ⟨{ b.st with overflow := true }, (b.next + 1) % 65536⟩
def noteE (b : Bnk) (s : Stt) : Int := if validB b = false then 1 else if okNote s = false then 2 else 0
def tupB (b : Bnk) (e : Int) : SV := .t [.a (bkC b), .c (.v (.int .i64 e))]

theorem next_mod {n : Int} (h0 : 0 ≤ n) (h1 : n ≤ 65535) : (IntKind.i64.wrap (n + 1)).tmod 65536 = (n + 1) % 65536 := by
  rw [wrap64_in (by omega) (by omega), Int.tmod_eq_emod_of_nonneg (by omega)]
theorem valid_zero {s : Stt} (h : validS s = true) : s.valid = false ↔ eqS s zS = true := by
  constructor
  · intro hv
    cases hz : eqS s zS with
    | true => rfl
    | false => simp [validS, hz, hv] at h
  · intro hz; rw [eqS_iff.1 hz]; rfl
theorem okNote_imp (s : Stt) : okNote s = (!eqS { s with stamp := 0 } zS && validS { s with stamp := 0 }) := by
  obtain ⟨v, o, ou, so, st, ad, ch⟩ := s
  cases v <;> cases o <;> simp [okNote, fresh0, validS, eqS, zS] <;> (intros; omega)
set_option maxHeartbeats 1600000 in
set_option maxRecDepth 10000 in
theorem note_fc (b : Bnk) (s : Stt) : FC Try.prog 15 [.o (.a (bkC b)), .o (.a (stC s))] [] (tupB (noteB b s) (noteE b s)) [] := by
  refine FC.b mix Try.func15 ?_
  refine FC.u (validB_fc b) [] ?_
  refine bselNot ?_
  refine bsel_intro (fun h => ?_) (fun h => ?_)
  rotate_left
  · exact ⟨(show _ = tupB (noteB b s) (noteE b s) by simp only [noteB, noteE, h, if_true]; rfl), trivial⟩
  have hb := h
  simp only [validB, in8, Bool.and_eq_true, decide_eq_true_eq] at hb
  refine FC.u (zero_fc { s with stamp := 0 }) [] ?_
  have ho := okNote_imp s
  refine bsel_intro (fun hz => ?_) (fun hz => ?_)
  · rw [hz] at ho
    exact ⟨(show _ = tupB (noteB b s) (noteE b s) by simp only [noteB, noteE, h, show okNote s = false from ho]; rfl), trivial⟩
  refine FC.u (valid_fc { s with stamp := 0 }) [] ?_
  refine bselNot ?_
  refine bsel_intro (fun hv => ?_) (fun hv => ?_)
  rotate_left
  · rw [hv, Bool.and_false] at ho
    exact ⟨(show _ = tupB (noteB b s) (noteE b s) by simp only [noteB, noteE, h, show okNote s = false from ho]; rfl), trivial⟩
  rw [hz, hv] at ho
  replace ho : okNote s = true := ho
  have hE : noteE b s = 0 := by simp only [noteE, h, ho]; rfl
  refine And.intro (by decide) ?_
  refine FC.u (zero_fc b.st) [] ?_
  refine bsel_intro (fun ho2 => ?_) (fun ho2 => ?_)
  · have hv2 : b.st.valid = false := (valid_zero hb.1).2 ho2
    have e : noteB b s = ⟨nS b s, (b.next + 1) % 65536⟩ := by simp only [noteB, h, ho, hv2]; rfl
    exact ⟨(show _ = tupB (noteB b s) (noteE b s) by rw [e, hE, ← next_mod hb.2.1 hb.2.2]; rfl), trivial⟩
  have hv2 : b.st.valid = true := by
    cases hx : b.st.valid with
    | true => rfl
    | false => rw [(valid_zero hb.1).1 hx] at ho2; cases ho2
  refine bselE (fun h1 => ?_) (fun h1 => ?_)
  · refine bselE (fun h2 => ?_) (fun h2 => ?_)
    · have e : noteB b s = ⟨{ nS b s with overflow := true }, (b.next + 1) % 65536⟩ := by simp only [noteB, h, ho, hv2, h1, h2]; rfl
      exact ⟨(show _ = tupB (noteB b s) (noteE b s) by rw [e, hE, ← next_mod hb.2.1 hb.2.2]; rfl), trivial⟩
    · have e : noteB b s = ⟨{ b.st with overflow := true }, (b.next + 1) % 65536⟩ := by simp [noteB, h, ho, hv2, h2]
      exact ⟨(show _ = tupB (noteB b s) (noteE b s) by rw [e, hE, ← next_mod hb.2.1 hb.2.2]; rfl), trivial⟩
  · have e : noteB b s = ⟨{ b.st with overflow := true }, (b.next + 1) % 65536⟩ := by simp [noteB, h, ho, hv2, h1]
    exact ⟨(show _ = tupB (noteB b s) (noteE b s) by rw [e, hE, ← next_mod hb.2.1 hb.2.2]; rfl), trivial⟩
set_option maxHeartbeats 1600000 in
set_option maxRecDepth 10000 in
theorem noteR_fc (b : Bnk) (s : Stt) : FC Try.prog 18 [.o (.a (bkC b)), .o (.a (stC s))] [] (tupB (noteB b s) (noteE b s)) [] := by
  refine FC.b mix Try.func18 ?_
  refine FC.u (validBR_fc b) [] ?_
  refine bselNot ?_
  refine bsel_intro (fun h => ?_) (fun h => ?_)
  rotate_left
  · exact ⟨(show _ = tupB (noteB b s) (noteE b s) by simp only [noteB, noteE, h, if_true]; rfl), trivial⟩
  have hb := h
  simp only [validB, in8, Bool.and_eq_true, decide_eq_true_eq] at hb
  refine FC.u (validR_fc (fresh0 s)) [] ?_
  refine bselNot ?_
  refine bsel_intro (fun hv => ?_) (fun hv => ?_)
  rotate_left
  · exact ⟨(show _ = tupB (noteB b s) (noteE b s) by simp only [noteB, noteE, h, okNote, hv]; rfl), trivial⟩
  refine bselNot ?_
  refine bsel_intro (fun hz => ?_) (fun hz => ?_)
  rotate_left
  · exact ⟨(show _ = tupB (noteB b s) (noteE b s) by simp only [noteB, noteE, h, okNote, hv, hz]; rfl), trivial⟩
  have ho : okNote s = true := by simp only [okNote, hv, hz]; rfl
  have hE : noteE b s = 0 := by simp only [noteE, h, ho]; rfl
  refine And.intro (by decide) ?_
  refine bselNot ?_
  refine bsel_intro (fun hv2 => ?_) (fun hv2 => ?_)
  rotate_left
  · have e : noteB b s = ⟨nS b s, (b.next + 1) % 65536⟩ := by simp only [noteB, h, ho, hv2]; rfl
    exact ⟨(show _ = tupB (noteB b s) (noteE b s) by rw [e, hE, ← next_mod hb.2.1 hb.2.2]; rfl), trivial⟩
  refine bselE (fun h1 => ?_) (fun h1 => ?_)
  · refine bselE (fun h2 => ?_) (fun h2 => ?_)
    · have e : noteB b s = ⟨{ nS b s with overflow := true }, (b.next + 1) % 65536⟩ := by simp only [noteB, h, ho, hv2, h1, h2]; rfl
      exact ⟨(show _ = tupB (noteB b s) (noteE b s) by rw [e, hE, ← next_mod hb.2.1 hb.2.2]; rfl), trivial⟩
    · have e : noteB b s = ⟨{ b.st with overflow := true }, (b.next + 1) % 65536⟩ := by simp [noteB, h, ho, hv2, h2]
      exact ⟨(show _ = tupB (noteB b s) (noteE b s) by rw [e, hE, ← next_mod hb.2.1 hb.2.2]; rfl), trivial⟩
  · have e : noteB b s = ⟨{ b.st with overflow := true }, (b.next + 1) % 65536⟩ := by simp [noteB, h, ho, hv2, h1]
    exact ⟨(show _ = tupB (noteB b s) (noteE b s) by rw [e, hE, ← next_mod hb.2.1 hb.2.2]; rfl), trivial⟩

def readB (b : Bnk) : Bnk := if validB b && b.st.valid then ⟨zS, b.next⟩ else b
def readS (b : Bnk) : Stt := if validB b && b.st.valid then b.st else zS
def readE (b : Bnk) : Int := if validB b = false then 1 else if b.st.valid = false then 15 else 0
def tupR (b : Bnk) (s : Stt) (e : Int) : SV := .t [.a (bkC b), .a (stC s), .c (.v (.int .i64 e))]
theorem read_bad {b : Bnk} (h : validB b = false) : tupR (readB b) (readS b) (readE b) = tupR b zS 1 := by
  have e1 : readB b = b := by simp [readB, h]
  have e2 : readS b = zS := by simp [readS, h]
  have e3 : readE b = 1 := by simp [readE, h]
  rw [e1, e2, e3]
theorem read_none {b : Bnk} (h : validB b = true) (hv : b.st.valid = false) : tupR (readB b) (readS b) (readE b) = tupR b zS 15 := by
  have e1 : readB b = b := by simp [readB, hv]
  have e2 : readS b = zS := by simp [readS, hv]
  have e3 : readE b = 15 := by simp [readE, h, hv]
  rw [e1, e2, e3]
theorem read_some {b : Bnk} (h : validB b = true) (hv : b.st.valid = true) : tupR (readB b) (readS b) (readE b) = tupR ⟨zS, b.next⟩ b.st 0 := by
  have e1 : readB b = ⟨zS, b.next⟩ := by simp [readB, h, hv]
  have e2 : readS b = b.st := by simp [readS, h, hv]
  have e3 : readE b = 0 := by simp [readE, h, hv]
  rw [e1, e2, e3]
set_option maxRecDepth 10000 in
theorem read_fc (b : Bnk) : FC Try.prog 17 [.o (.a (bkC b))] [] (tupR (readB b) (readS b) (readE b)) [] := by
  refine FC.b mix Try.func17 ?_
  refine FC.u (validB_fc b) [] ?_
  refine bselNot ?_
  refine bsel_intro (fun h => ?_) (fun h => ?_)
  rotate_left
  · rw [read_bad h]; exact ⟨rfl, trivial⟩
  have hb := h
  simp only [validB, in8, Bool.and_eq_true, decide_eq_true_eq] at hb
  refine FC.u (zero_fc b.st) [] ?_
  refine bsel_intro (fun hz => ?_) (fun hz => ?_)
  · have hv := (valid_zero hb.1).2 hz
    rw [read_none h hv]; exact ⟨rfl, trivial⟩
  · have hv : b.st.valid = true := by
      cases hx : b.st.valid with
      | true => rfl
      | false => rw [(valid_zero hb.1).1 hx] at hz; cases hz
    refine And.intro (by kernel_rfl) ?_
    rw [read_some h hv]; exact ⟨rfl, trivial⟩
set_option maxRecDepth 10000 in
theorem readR_fc (b : Bnk) : FC Try.prog 19 [.o (.a (bkC b))] [] (tupR (readB b) (readS b) (readE b)) [] := by
  refine FC.b mix Try.func19 ?_
  refine FC.u (validBR_fc b) [] ?_
  refine bselNot ?_
  refine bsel_intro (fun h => ?_) (fun h => ?_)
  rotate_left
  · rw [read_bad h]; exact ⟨rfl, trivial⟩
  refine bselNot ?_
  refine bsel_intro (fun hv => ?_) (fun hv => ?_)
  · refine And.intro (by kernel_rfl) ?_
    rw [read_some h hv]; exact ⟨rfl, trivial⟩
  · rw [read_none h hv]; exact ⟨rfl, trivial⟩
end Go.Sx.T1
namespace Go.Sx.T1
open Go.Proofs
theorem okNote_of {s : Stt} (h : validS s = true) (hv : s.valid = true) : okNote s = true := by
  have hz : eqS s zS = false := by
    cases hz : eqS s zS with
    | false => rfl
    | true => rw [(valid_zero h).2 hz] at hv; cases hv
  simp only [okNote, fresh0, validS, hz, hv, in8, Bool.false_or, Bool.true_and, Bool.and_true, Bool.and_eq_true, Bool.or_eq_true, decide_eq_true_eq, beq_iff_eq] at h ⊢
  exact .inr ⟨h.1, h.2.1, by omega, h.2.2.2⟩
theorem eqB_refl (b : Bnk) : (b.st.valid == b.st.valid) = true := by simp
theorem a1 : FC Try.prog 15 [.o (.a (bkC ⟨zS, 0⟩)), .o (.a (stC ⟨true, false, 1, 0, 0, 0, 0⟩))] [] (tupB ⟨⟨true, false, 1, 0, 0, 0, 0⟩, 1⟩ 0) [] := by
  have h := note_fc ⟨zS, 0⟩ ⟨true, false, 1, 0, 0, 0, 0⟩
  have e : tupB (noteB ⟨zS, 0⟩ ⟨true, false, 1, 0, 0, 0, 0⟩) (noteE ⟨zS, 0⟩ ⟨true, false, 1, 0, 0, 0, 0⟩) = tupB ⟨⟨true, false, 1, 0, 0, 0, 0⟩, 1⟩ 0 := by kernel_rfl
  rw [e] at h; exact h
theorem a2 : FC Try.prog 15 [.o (.a (bkC ⟨⟨true, false, 1, 0, 0, 0, 0⟩, 1⟩)), .o (.a (stC ⟨true, false, 2, 0, 0, 0, 0⟩))] [] (tupB ⟨⟨true, true, 2, 0, 1, 0, 0⟩, 2⟩ 0) [] := by
  have h := note_fc ⟨⟨true, false, 1, 0, 0, 0, 0⟩, 1⟩ ⟨true, false, 2, 0, 0, 0, 0⟩
  have e : tupB (noteB ⟨⟨true, false, 1, 0, 0, 0, 0⟩, 1⟩ ⟨true, false, 2, 0, 0, 0, 0⟩) (noteE ⟨⟨true, false, 1, 0, 0, 0, 0⟩, 1⟩ ⟨true, false, 2, 0, 0, 0, 0⟩) = tupB ⟨⟨true, true, 2, 0, 1, 0, 0⟩, 2⟩ 0 := by kernel_rfl
  rw [e] at h; exact h
theorem a3 : FC Try.prog 17 [.o (.a (bkC ⟨⟨true, true, 2, 0, 1, 0, 0⟩, 2⟩))] [] (tupR ⟨zS, 2⟩ ⟨true, true, 2, 0, 1, 0, 0⟩ 0) [] := by
  have h := read_fc ⟨⟨true, true, 2, 0, 1, 0, 0⟩, 2⟩
  rw [read_some (by kernel_rfl) rfl] at h; exact h
set_option maxRecDepth 10000 in
theorem awake_fc : FC Try.prog 7 [] [] (boo true) [] := by
  refine FC.b mix Try.func7 ?_
  refine FC.u a1 [] ?_
  repeat (first | refine And.intro (by kernel_rfl) ?_ | refine And.intro (by decide) ?_)
  refine FC.u a2 [] ?_
  repeat (first | refine And.intro (by kernel_rfl) ?_ | refine And.intro (by decide) ?_)
  refine FC.u a3 [] ?_
  repeat (first | refine And.intro (by kernel_rfl) ?_ | refine And.intro (by decide) ?_)
  exact trivial
set_option maxHeartbeats 1600000 in
set_option maxRecDepth 10000 in
theorem agree_fc (b : Bnk) (s : Stt) : FC Try.prog 13 [.o (.a (bkC b)), .o (.a (stC s))] [] (boo true) [] := by
  refine FC.b mix Try.func13 ?_
  refine FC.x (⟨(noteB b s, noteE b s), note_fc b s, noteR_fc b s⟩ : ∃ p : Bnk × Int, FC Try.prog 15 [.o (.a (bkC b)), .o (.a (stC s))] [] (tupB p.1 p.2) [] ∧ FC Try.prog 18 [.o (.a (bkC b)), .o (.a (stC s))] [] (tupB p.1 p.2) []) [] (fun p hp => ?_)
  refine FC.u hp [] ?_
  refine FC.x (⟨(readB b, readS b, readE b), read_fc b, readR_fc b⟩ : ∃ p : Bnk × Stt × Int, FC Try.prog 17 [.o (.a (bkC b))] [] (tupR p.1 p.2.1 p.2.2) [] ∧ FC Try.prog 19 [.o (.a (bkC b))] [] (tupR p.1 p.2.1 p.2.2) []) [] (fun q hq => ?_)
  refine FC.u hq [] ?_
  refine FC.x (⟨validB b, validB_fc b, validBR_fc b⟩ : ∃ r : Bool, FC Try.prog 16 [.o (.a (bkC b))] [] (boo r) [] ∧ FC Try.prog 20 [.o (.a (bkC b))] [] (boo r) []) [] (fun r hr => ?_)
  refine FC.u hr [] ?_
  refine bselT ?_ ?_
  · simp
  refine FC.x (⟨validS s, valid_fc s, validR_fc s⟩ : ∃ r : Bool, FC Try.prog 21 [.o (.a (stC s))] [] (boo r) [] ∧ FC Try.prog 22 [.o (.a (stC s))] [] (boo r) []) [] (fun r hr => ?_)
  refine FC.u hr [] ?_
  refine bselT ?_ ?_
  · simp
  refine bselT ?_ ?_
  · simp
  refine And.intro (by kernel_rfl) ?_
  refine bselT ?_ ?_
  · simp
  refine bselT ?_ ?_
  · simp
  refine And.intro (by kernel_rfl) ?_
  refine bselT ?_ ?_
  · simp
  refine And.intro (by kernel_rfl) ?_
  refine And.intro (by kernel_rfl) ?_
  refine ⟨congrArg boo ?_, trivial⟩
  simp
def runW (w : Stt) (nxt : Int) (s : Stt) : Stt :=
  if w.valid = false then { s with stamp := nxt, overflow := false }
  else if w.outcome = 1 ∧ s.outcome = 2 then { s with stamp := nxt, overflow := true } else { w with overflow := true }
theorem note_ok {w s : Stt} {nxt : Int} (hw : validS w = true) (h0 : 0 ≤ nxt) (h1 : nxt ≤ 65535) (hs : validS s = true) (hv : s.valid = true) :
    FC Try.prog 15 [.o (.a (bkC ⟨w, nxt⟩)), .o (.a (stC s))] [] (tupB ⟨runW w nxt s, (nxt + 1) % 65536⟩ 0) [] := by
  have hB : validB ⟨w, nxt⟩ = true := by simp [validB, in8, hw, h0, h1]
  have ho := okNote_of hs hv
  have e1 : noteE ⟨w, nxt⟩ s = 0 := by simp [noteE, hB, ho]
  have e2 : noteB ⟨w, nxt⟩ s = ⟨runW w nxt s, (nxt + 1) % 65536⟩ := by
    simp only [noteB, hB, ho, runW, nS]
    by_cases a : w.valid = false
    · simp [a]
    · by_cases c : w.outcome = 1 ∧ s.outcome = 2 <;> simp [a, c]
  have := note_fc ⟨w, nxt⟩ s
  rw [e1, e2] at this
  exact this
theorem validS_set {s : Stt} (h : validS s = true) (hv : s.valid = true) {nxt : Int} (h0 : 0 ≤ nxt) (h1 : nxt ≤ 65535) (o : Bool) : validS { s with stamp := nxt, overflow := o } = true := by
  have hz : eqS s zS = false := by
    cases hz : eqS s zS with
    | false => rfl
    | true => rw [(valid_zero h).2 hz] at hv; cases hv
  simp only [validS, hz, hv, in8, Bool.false_or, Bool.true_and, Bool.and_eq_true, Bool.or_eq_true, decide_eq_true_eq, beq_iff_eq] at h ⊢
  exact .inr ⟨h.1, h.2.1, by omega, h.2.2.2⟩
theorem validS_of {s : Stt} (h : validS s = true) (hv : s.valid = true) (o : Bool) : validS { s with overflow := o } = true := by
  have hz : eqS s zS = false := by
    cases hz : eqS s zS with
    | false => rfl
    | true => rw [(valid_zero h).2 hz] at hv; cases hv
  simp only [validS, hz, hv, in8, Bool.false_or, Bool.true_and, Bool.and_eq_true, Bool.or_eq_true, decide_eq_true_eq, beq_iff_eq] at h ⊢
  exact .inr h
theorem runW_ok {w s : Stt} {nxt : Int} (hw : validS w = true) (h0 : 0 ≤ nxt) (h1 : nxt ≤ 65535) (hs : validS s = true) (hv : s.valid = true) : validS (runW w nxt s) = true ∧ (runW w nxt s).valid = true := by
  unfold runW
  by_cases a : w.valid = false
  · rw [if_pos a]; exact ⟨validS_set hs hv h0 h1 _, hv⟩
  · rw [if_neg a]
    have a' : w.valid = true := by simpa using a
    by_cases c : w.outcome = 1 ∧ s.outcome = 2
    · rw [if_pos c]; exact ⟨validS_set hs hv h0 h1 _, hv⟩
    · rw [if_neg c]; exact ⟨validS_of hw a' _, a'⟩
end Go.Sx.T1
namespace Go.Sx.T1
open Go.Proofs
theorem read_ok {w : Stt} {nxt : Int} (hw : validS w = true) (h0 : 0 ≤ nxt) (h1 : nxt ≤ 65535) (hv : w.valid = true) :
    FC Try.prog 17 [.o (.a (bkC ⟨w, nxt⟩))] [] (tupR ⟨zS, nxt⟩ w 0) [] := by
  have := read_fc ⟨w, nxt⟩
  rw [read_some (by simp [validB, in8, hw, h0, h1]) hv] at this
  exact this
theorem read_no {w : Stt} {nxt : Int} (hw : validS w = true) (h0 : 0 ≤ nxt) (h1 : nxt ≤ 65535) (hv : w.valid = false) :
    FC Try.prog 17 [.o (.a (bkC ⟨w, nxt⟩))] [] (tupR ⟨w, nxt⟩ zS 15) [] := by
  have := read_fc ⟨w, nxt⟩
  rw [read_none (by simp [validB, in8, hw, h0, h1]) hv] at this
  exact this
structure CtS where
  (n o k r : Nat)
  w : Stt
structure CtS.Ok (p : CtS) : Prop where
  on : p.o ≤ p.n
  nr : p.n + p.r < 40
  val : validS p.w = true
  is : p.w.valid = decide (0 < p.o)
  st : 0 < p.o → p.w.overflow = decide (1 < p.o) ∧ (p.n : Int) - p.o ≤ p.w.stamp ∧ p.w.stamp < p.n
set_option maxHeartbeats 3200000 in
set_option maxRecDepth 10000 in
theorem law5 (ts : List Int) : FC Try.prog 5 [.o (.c (.s 0 0 ts.length 1))] [diceL ts] (boo true) [diceL ts] := by
  refine FC.b mix Try.func5 ?_
  refine FC.u (light_fc ts) [0] ?_
  refine bselNot ?_
  refine bsel_intro (fun h => ?_) (fun h => ?_)
  rotate_left
  · refine FC.u awake_fc [] ?_
    exact ⟨rfl, rfl, trivial⟩
  have hl : ts.length ≤ 400 := of_decide_eq_true h
  refine FC.u (roll_fc ts) [0] ?_
  refine FC.x (next_x ts 0 40 (by omega) hl) [1, 0] (fun r0 er => ?_)
  have br := dv_bd ts 0 (n := 40) (by omega)
  refine ALoop.go (X := CtS) CtS.Ok (fun p => p.r) [3, 4] [0] (fun p => [(5, int .i64 p.n), (6, int .i64 p.o), (7, int .i64 p.r)])
    (fun p => [(1, ⟨.box [.s 0 0 ts.length 1, .v (.int .i64 (min p.k ts.length : Nat))], true⟩), (2, ⟨.box (bkC ⟨p.w, p.n⟩), true⟩)])
    ⟨0, 0, 1, r0.toNat, zS⟩ ⟨Nat.le_refl _, by simp only; omega, rfl, rfl, fun h => absurd h (Nat.lt_irrefl 0)⟩ ⟨rfl, rfl, congrArg (int .i64) (Int.toNat_of_nonneg (by omega)).symm, trivial⟩ ⟨.inl rfl, .inl rfl, trivial⟩ ?_
  rintro ⟨n, o, k, r, w⟩ ⟨hon, hnr, hw, hv, hst⟩
  simp only at hon hnr hw hv hst
  dsimp only [headF, headM]
  have n0 : (0 : Int) ≤ n ∧ (n : Int) ≤ 65535 := by omega
  have wr : IntKind.i64.wrap ((r : Int) - 1) = ((r - 1 : Nat) : Int) ∨ r = 0 := by
    rcases Nat.eq_zero_or_pos r with h | h
    · exact .inr h
    · exact .inl (by rw [wrap64_in (by omega) (by omega)]; omega)
  refine bselD (fun hr => ?_) (fun hr => ?_)
  · replace wr : IntKind.i64.wrap ((r : Int) - 1) = ((r - 1 : Nat) : Int) := wr.resolve_right (by have : 0 < (r : Int) := hr; omega)
    have hr' : 0 < r := by have : 0 < (r : Int) := hr; omega
    refine FC.x (one_x ts k 3 (by omega) (by omega) hl) [1, 0] (fun c _ => ?_)
    refine bsel_intro (fun hc => ?_) (fun hc => ?_)
    · rcases Bool.eq_false_or_eq_true w.valid with hwv | hwv
      · have ho : 0 < o := by rw [hwv] at hv; exact of_decide_eq_true hv.symm
        obtain ⟨s1, s2, s3⟩ := hst ho
        refine FC.u (read_ok hw n0.1 n0.2 hwv) [] ?_
        refine bselF ?_ ?_
        · simp; omega
        refine bselF ?_ ?_
        · simp [s1]; omega
        refine bselF ?_ ?_
        · simp; rw [wrap64_in (by omega) (by omega)]; omega
        refine bselF ?_ ?_
        · simp; omega
        exact ⟨⟨n, 0, k + 1, r - 1, zS⟩, ⟨⟨Nat.zero_le _, by simp only; omega, rfl, rfl, fun h => absurd h (Nat.lt_irrefl 0)⟩, by simp only; omega⟩, ⟨⟨rfl, rfl, congrArg (int .i64) wr, trivial⟩, rfl⟩, ⟨.inl rfl, .inl rfl, trivial⟩, rfl⟩
      · have ho : o = 0 := by rw [hwv] at hv; have := of_decide_eq_false hv.symm; omega
        refine FC.u (read_no hw n0.1 n0.2 hwv) [] ?_
        refine bselF ?_ ?_
        · simp [ho]
        exact ⟨⟨n, o, k + 1, r - 1, w⟩, ⟨⟨hon, by simp only; omega, hw, hv, hst⟩, by simp only; omega⟩, ⟨⟨rfl, rfl, congrArg (int .i64) wr, trivial⟩, rfl⟩, ⟨.inl rfl, .inl rfl, trivial⟩, rfl⟩
    · refine FC.x (next_x ts (k + 1) 1048576 (by omega) hl) [1, 0] (fun n3 e3 => ?_)
      have a3 := dv_bd ts (k + 1) (n := 1048576) (by omega)
      refine FC.x (status_v ts (k + 2) n3 hl (by omega) (by omega)) [1, 0] (fun s hs => ?_)
      refine FC.u (note_ok hw n0.1 n0.2 hs.1 hs.2.1) [] ?_
      refine And.intro (by kernel_rfl) ?_
      have hr2 := runW_ok hw n0.1 n0.2 hs.1 hs.2.1
      have en : ((n : Int) + 1) % 65536 = ((n + 1 : Nat) : Int) := by omega
      have wn : IntKind.i64.wrap ((n : Int) + 1) = ((n + 1 : Nat) : Int) := wrap64_in (by omega) (by omega)
      have wo : IntKind.i64.wrap ((o : Int) + 1) = ((o + 1 : Nat) : Int) := wrap64_in (by omega) (by omega)
      refine ⟨⟨n + 1, o + 1, k + 8, r - 1, runW w n s⟩, ⟨⟨by simp only; omega, by simp only; omega, hr2.1, by simp [hr2.2], fun _ => ?_⟩, by simp only; omega⟩, ⟨⟨congrArg (int .i64) wn, congrArg (int .i64) wo, congrArg (int .i64) wr, trivial⟩, rfl⟩,
        ⟨.inl rfl, .inl (congrArg (fun x => some (⟨.box (bkC ⟨runW w n s, x⟩), true⟩ : Blk)) en), trivial⟩, rfl⟩
      simp only [runW]
      by_cases c1 : w.valid = false
      · have ho : o = 0 := by rw [c1] at hv; have := of_decide_eq_false hv.symm; omega
        subst ho
        simp only [if_pos c1]
        exact ⟨rfl, by omega, by omega⟩
      · have ho : 0 < o := by have : w.valid = true := by simpa using c1
                              rw [this] at hv; exact of_decide_eq_true hv.symm
        obtain ⟨s1, s2, s3⟩ := hst ho
        simp only [if_neg c1]
        by_cases c2 : w.outcome = 1 ∧ s.outcome = 2
        · simp only [if_pos c2]
          exact ⟨by simp; omega, by omega, by omega⟩
        · simp only [if_neg c2]
          exact ⟨by simp; omega, by omega, by omega⟩
  · refine FC.u awake_fc [] ?_
    refine bselT ?_ ?_
    · simp
    have hf : (w.valid == decide ((o : Int) > 0)) = true := by simp [hv]
    first | exact ⟨congrArg boo hf, rfl, trivial⟩ | exact ⟨by kernel_rfl, congrArg boo hf, rfl, trivial⟩
end Go.Sx.T1
