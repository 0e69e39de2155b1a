/- Contracts of the functions that MatchSettles reaches, and the walk of the law, part 1. Conditions: none. -/
import Derived.Test.YtpopimckmalfdaaSxTwo
import Derived.Test.YtpopimckmalfdaaChecked
namespace Go.Sx.T1
open Go.Proofs

theorem mix : Try.prog.follows .mixedOrders = true := by kernel_rfl

def mMod (n m : Int) : Int := if m < 1 then 0 else n % m

theorem tmod_fix (n m : Int) (h : 1 ≤ m) : (n.tmod m < 0 → n.tmod m + m = n % m) ∧ (¬ n.tmod m < 0 → n.tmod m = n % m) := by
  have h1 := Int.emod_lt_of_pos n (show 0 < m by omega)
  have h2 := Int.emod_nonneg n (show m ≠ 0 by omega)
  rw [Int.tmod_eq_emod]
  split <;> omega

set_option maxRecDepth 10000 in
theorem mod_fc (n m : Int) (hm : m < 9223372036854775808) : FC Try.prog 15 [int .i64 n, int .i64 m] [] (int .i64 (mMod n m)) [] := by
  refine FC.b mix Try.func15 ?_
  refine bselD (fun h => ?_) (fun h => ?_)
  · exact ⟨congrArg (int .i64) (by simp [mMod, h]), trivial⟩
  · refine ⟨by omega, ?_⟩
    have hlt := Int.tmod_lt_of_pos n (show 0 < m by omega)
    have hgt := Int.lt_tmod_of_pos n (show 0 < m by omega)
    have e := tmod_fix n m (by omega)
    refine bselD (fun h2 => ?_) (fun h2 => ?_)
    · refine ⟨congrArg (int .i64) ?_, trivial⟩
      rw [wrap64_in (by omega) (by omega)]
      simp only [mMod, h, if_false]
      exact e.1 h2
    · exact ⟨congrArg (int .i64) (by simp [mMod, h]; exact e.2 h2), trivial⟩

/-- the dice: name 0 the two fields, name 1 the numbers; k numbers have been asked for -/
def diceB (ts : List Int) (k : Nat) : Option Blk := some ⟨.box [.s 1 0 ts.length 1, .v (.int .i64 (min k ts.length : Nat))], true⟩
def diceL (ts : List Int) : Option Blk := some ⟨.ints .i64 ts, false⟩
def dv (ts : List Int) (k : Nat) (n : Int) : Int := mMod (ts.getD k 0) n

set_option maxRecDepth 10000 in
theorem next_fc (ts : List Int) (k : Nat) (n : Int) (hn : n < 9223372036854775808) (hl : ts.length ≤ 400) :
    FC Try.prog 12 [.o (.c (.p 0 0 0)), int .i64 n] [diceB ts k, diceL ts] (int .i64 (dv ts k n)) [diceB ts (k + 1), diceL ts] := by
  refine FC.b mix Try.func12 ?_
  refine ⟨by kernel_rfl, ?_⟩
  refine bselD (fun h => ?_) (fun h => ?_)
  · have h' : ts.length ≤ k := by omega
    refine ⟨congrArg (int .i64) ?_, congrArg some ?_, rfl, trivial⟩
    · simp [dv, h', mMod]
    · simp [Nat.min_eq_right h', Nat.min_eq_right (Nat.le_succ_of_le h')]
  · have h' : k < ts.length := by omega
    have e : min k ts.length = k := Nat.min_eq_left (by omega)
    have e2 : min (k + 1) ts.length = k + 1 := Nat.min_eq_left (by omega)
    have w1 : IntKind.i64.wrap ((k : Int) + 1) = (k : Int) + 1 := wrap64_in (by omega) (by omega)
    have w2 : IntKind.i64.wrap ((k : Int) + 1 - 1) = (k : Int) := by rw [wrap64_in (by omega) (by omega)]; omega
    skip
    refine ⟨⟨?_, ?_⟩, ?_, ?_⟩
    · rw [e, w1, w2]; omega
    · rw [e, w1, w2]; omega
    · rw [e, w1, w2]; omega
    refine FC.use (mod_fc (ts.getD k 0) n hn) [] (congrArg (fun x => [int .i64 (ts.getD x 0), int .i64 n]) ?_) rfl trivial rfl rfl trivial ?_
    · rw [e, w1, w2]; simp
    refine ⟨by kernel_rfl, ?_⟩
    refine ⟨congrArg (int .i64) ?_, congrArg some ?_, rfl, trivial⟩
    · rfl
    · rw [e, w1, e2]; rfl
end Go.Sx.T1
namespace Go.Sx.T1
open Go.Proofs
set_option maxRecDepth 10000 in
theorem light_fc (ts : List Int) : FC Try.prog 8 [.o (.c (.s 0 0 ts.length 1))] [diceL ts] (boo (decide (ts.length ≤ 400))) [diceL ts] := by
  refine FC.b mix Try.func8 ?_
  exact ⟨congrArg boo (show decide ((ts.length : Int) ≤ 400) = decide (ts.length ≤ 400) by rw [Bool.eq_iff_iff]; simp; omega), rfl, trivial⟩
set_option maxRecDepth 10000 in
theorem roll_fc (ts : List Int) : FC Try.prog 10 [.o (.c (.s 0 0 ts.length 1))] [diceL ts] (.o (.c (.p 1 0 0))) [diceL ts, some ⟨.box [.s 0 0 ts.length 1, .v (.int .i64 0)], true⟩] := by
  refine FC.b mix Try.func10 ?_
  exact ⟨rfl, rfl, rfl, trivial⟩
theorem mMod_bd {n m : Int} (h : 1 ≤ m) : 0 ≤ mMod n m ∧ mMod n m < m := by
  unfold mMod
  rw [if_neg (by omega)]
  exact ⟨Int.emod_nonneg n (by omega), Int.emod_lt_of_pos n (by omega)⟩
theorem dv_bd (ts : List Int) (k : Nat) {n : Int} (h : 1 ≤ n) : 0 ≤ dv ts k n ∧ dv ts k n < n := mMod_bd h

theorem next_x (ts : List Int) (k : Nat) (n : Int) (hn : n < 9223372036854775808) (hl : ts.length ≤ 400) :
    ∃ v, FC Try.prog 12 [.o (.c (.p 0 0 0)), int .i64 n] [diceB ts k, diceL ts] (int .i64 v) [diceB ts (k + 1), diceL ts] ∧ v = dv ts k n := ⟨_, next_fc ts k n hn hl, rfl⟩
def u8s (xs : List Int) (wr : Bool) : Option Blk := some ⟨.ints .u8 xs, wr⟩
def i64s (xs : List Int) (wr : Bool) : Option Blk := some ⟨.ints .i64 xs, wr⟩
theorem newI (sz : Nat) {k : IntKind} (h : sz = 1) : Bk.fits (.ints k []) sz ∧ Bk.need (.ints k []) = 0 := ⟨.inr ⟨h, Nat.le_refl 1, fun _ h => absurd h (Nat.not_lt_zero _)⟩, rfl⟩
end Go.Sx.T1
namespace Go.Sx.T1
open Go.Proofs
set_option maxRecDepth 10000 in
theorem one_fc (ts : List Int) (k : Nat) (n : Int) (hn : n < 9223372036854775808) (hn1 : 1 ≤ n) (hl : ts.length ≤ 400) :
    FC Try.prog 18 [.o (.c (.p 0 0 0)), int .i64 n] [diceB ts k, diceL ts] (boo (dv ts k n == n - 1)) [diceB ts (k + 1), diceL ts] := by
  refine FC.b mix Try.func18 ?_
  refine FC.u (next_fc ts k n hn hl) [0, 1] ?_
  exact ⟨congrArg (fun x => boo (dv ts k n == x)) (wrap64_in (by omega) (by omega)), rfl, rfl, trivial⟩

theorem one_x (ts : List Int) (k : Nat) (n : Int) (hn : n < 9223372036854775808) (hn1 : 1 ≤ n) (hl : ts.length ≤ 400) :
    ∃ v, FC Try.prog 18 [.o (.c (.p 0 0 0)), int .i64 n] [diceB ts k, diceL ts] (boo v) [diceB ts (k + 1), diceL ts] ∧ v = (dv ts k n == n - 1) := ⟨_, one_fc ts k n hn hn1 hl, rfl⟩
end Go.Sx.T1
namespace Go.Sx.T1
open Go.Proofs

structure Stt where
  valid : Bool
  overflow : Bool
  outcome : Int
  source : Int
  stamp : Int
  address : Int
  chips : Int

def stC (s : Stt) : List C := [.v (.bool s.valid), .v (.bool s.overflow), .v (.int .i64 s.outcome), .v (.int .i64 s.source), .v (.int .i64 s.stamp), .v (.int .i64 s.address), .v (.int .u64 s.chips)]
def dStatus (ts : List Int) (k : Nat) (a : Int) : Stt :=
  ⟨true, dv ts k 3 == 3 - 1, 1 + dv ts (k + 1) 2, dv ts (k + 2) 3, [0, 1, dv ts (k + 3) 20, 65535].getD (dv ts (k + 4) 4).toNat 0, a, dv ts (k + 5) 1048576⟩

set_option maxRecDepth 10000 in
theorem status_fc (ts : List Int) (k : Nat) (a : Int) (hl : ts.length ≤ 400) :
    FC Try.prog 13 [.o (.c (.p 0 0 0)), int .i64 a] [diceB ts k, diceL ts] (.o (.a (stC (dStatus ts k a)))) [diceB ts (k + 6), diceL ts] := by
  refine FC.b mix Try.func13 ?_
  refine FC.u (one_fc ts k 3 (by omega) (by omega) hl) [0, 1] ?_
  refine FC.u (next_fc ts (k + 1) 2 (by omega) hl) [0, 1] ?_
  refine FC.u (next_fc ts (k + 2) 3 (by omega) hl) [0, 1] ?_
  refine FC.u (next_fc ts (k + 3) 20 (by omega) hl) [0, 1] ?_
  refine FC.u (next_fc ts (k + 4) 4 (by omega) hl) [0, 1] ?_
  have b := dv_bd ts (k + 4) (n := 4) (by omega)
  refine And.intro b (And.intro (by simp; omega) ?_)
  refine FC.u (next_fc ts (k + 5) 1048576 (by omega) hl) [0, 1] ?_
  refine And.intro (by kernel_rfl) ?_
  have b1 := dv_bd ts (k + 1) (n := 2) (by omega)
  have b5 := dv_bd ts (k + 5) (n := 1048576) (by omega)
  refine ⟨?_, rfl, rfl, trivial⟩
  show SV.o (.a _) = _
  rw [wrap64_in (n := 1 + dv ts (k + 1) 2) (by omega) (by omega), wrapU64_in (n := dv ts (k + 5) 1048576) (by omega) (by omega), Nat.zero_add]
  rfl
end Go.Sx.T1
namespace Go.Sx.T1
open Go.Proofs

def oddV (ts : List Int) (k : Nat) : Int := [-1, 0, 1, 2, 3, 4, 65535, 65536, 1048575, 1048576].getD (dv ts k 10).toNat 0
def oddS (ts : List Int) (k : Nat) (s : Stt) : Stt :=
  let v := oddV ts k
  let c := dv ts (k + 1) 6
  if c = 0 then { s with valid := !s.valid }
  else if c = 1 then { s with outcome := v }
  else if c = 2 then { s with source := v }
  else if c = 3 then { s with stamp := v }
  else if c = 4 then { s with address := v }
  else { s with chips := [549755813888, 1099511627776, 9223372036854775808].getD (dv ts (k + 2) 3).toNat 0 }
def oddK (ts : List Int) (k : Nat) : Nat := if dv ts (k + 1) 6 = 0 ∨ dv ts (k + 1) 6 = 1 ∨ dv ts (k + 1) 6 = 2 ∨ dv ts (k + 1) 6 = 3 ∨ dv ts (k + 1) 6 = 4 then k + 2 else k + 3

set_option maxRecDepth 10000 in
theorem oddStatus_fc (ts : List Int) (k : Nat) (s : Stt) (hl : ts.length ≤ 400) :
    FC Try.prog 29 [.o (.c (.p 0 0 0)), .o (.a (stC s))] [diceB ts k, diceL ts] (.o (.a (stC (oddS ts k s)))) [diceB ts (oddK ts k), diceL ts] := by
  refine FC.b mix Try.func29 ?_
  refine FC.u (next_fc ts k 10 (by omega) hl) [0, 1] ?_
  have b := dv_bd ts k (n := 10) (by omega)
  have b2 := dv_bd ts (k + 2) (n := 3) (by omega)
  refine And.intro b (And.intro (by simp; omega) ?_)
  refine FC.u (next_fc ts (k + 1) 6 (by omega) hl) [0, 1] ?_
  refine bselE (fun h0 => ?_) (fun h0 => ?_)
  · exact ⟨congrArg (fun x => SV.o (.a (stC x))) (show ({ s with valid := !s.valid } : Stt) = oddS ts k s by simp only [oddS, if_pos h0]), congrArg (diceB ts) (show k + 2 = oddK ts k by unfold oddK; rw [if_pos (by omega)]), rfl, trivial⟩
  refine bselE (fun h1 => ?_) (fun h1 => ?_)
  · exact ⟨congrArg (fun x => SV.o (.a (stC x))) (show ({ s with outcome := [-1, 0, 1, 2, 3, 4, 65535, 65536, 1048575, 1048576].getD (0 + (dv ts k 10).toNat) 0 } : Stt) = oddS ts k s by simp only [oddS, if_neg h0, if_pos h1, oddV, Nat.zero_add]), congrArg (diceB ts) (show k + 2 = oddK ts k by unfold oddK; rw [if_pos (by omega)]), rfl, trivial⟩
  refine bselE (fun h2 => ?_) (fun h2 => ?_)
  · exact ⟨congrArg (fun x => SV.o (.a (stC x))) (show ({ s with source := [-1, 0, 1, 2, 3, 4, 65535, 65536, 1048575, 1048576].getD (0 + (dv ts k 10).toNat) 0 } : Stt) = oddS ts k s by simp only [oddS, if_neg h0, if_neg h1, if_pos h2, oddV, Nat.zero_add]), congrArg (diceB ts) (show k + 2 = oddK ts k by unfold oddK; rw [if_pos (by omega)]), rfl, trivial⟩
  refine bselE (fun h3 => ?_) (fun h3 => ?_)
  · exact ⟨congrArg (fun x => SV.o (.a (stC x))) (show ({ s with stamp := [-1, 0, 1, 2, 3, 4, 65535, 65536, 1048575, 1048576].getD (0 + (dv ts k 10).toNat) 0 } : Stt) = oddS ts k s by simp only [oddS, if_neg h0, if_neg h1, if_neg h2, if_pos h3, oddV, Nat.zero_add]), congrArg (diceB ts) (show k + 2 = oddK ts k by unfold oddK; rw [if_pos (by omega)]), rfl, trivial⟩
  refine bselE (fun h4 => ?_) (fun h4 => ?_)
  · exact ⟨congrArg (fun x => SV.o (.a (stC x))) (show ({ s with address := [-1, 0, 1, 2, 3, 4, 65535, 65536, 1048575, 1048576].getD (0 + (dv ts k 10).toNat) 0 } : Stt) = oddS ts k s by simp only [oddS, if_neg h0, if_neg h1, if_neg h2, if_neg h3, if_pos h4, oddV, Nat.zero_add]), congrArg (diceB ts) (show k + 2 = oddK ts k by unfold oddK; rw [if_pos (by omega)]), rfl, trivial⟩
  refine FC.u (next_fc ts (k + 2) 3 (by omega) hl) [0, 1] ?_
  refine And.intro b2 (And.intro (by simp; omega) ?_)
  exact ⟨congrArg (fun x => SV.o (.a (stC x))) (show ({ s with chips := [549755813888, 1099511627776, 9223372036854775808].getD (0 + (dv ts (k + 2) 3).toNat) 0 } : Stt) = oddS ts k s by simp only [oddS, if_neg h0, if_neg h1, if_neg h2, if_neg h3, if_neg h4, Nat.zero_add]), congrArg (diceB ts) (show k + 3 = oddK ts k by unfold oddK; rw [if_neg (by omega)]), rfl, trivial⟩

def eqS (s t : Stt) : Bool := s.valid == t.valid && (s.overflow == t.overflow && (s.outcome == t.outcome && (s.source == t.source && (s.stamp == t.stamp && (s.address == t.address && (s.chips == t.chips && true))))))
def zS : Stt := ⟨false, false, 0, 0, 0, 0, 0⟩
theorem eqS_iff {s t : Stt} : eqS s t = true ↔ s = t := by
  obtain ⟨a, b, c, d, e, f, g⟩ := s
  obtain ⟨a', b', c', d', e', f', g'⟩ := t
  simp [eqS]
theorem eqS_self (s : Stt) : eqS s s = true := eqS_iff.2 rfl

set_option maxRecDepth 10000 in
theorem zero_fc (s : Stt) : FC Try.prog 43 [.o (.a (stC s))] [] (boo (eqS s zS)) [] := by
  refine FC.b mix Try.func43 ?_
  refine And.intro (by kernel_rfl) ?_
  exact ⟨rfl, trivial⟩
set_option maxRecDepth 10000 in
theorem between_fc (n a b : Int) : FC Try.prog 44 [int .i64 n, int .i64 a, int .i64 b] [] (boo (decide (a ≤ n) && decide (n ≤ b))) [] := by
  refine FC.b mix Try.func44 ?_
  refine bselD (fun h => ?_) (fun h => ?_)
  · exact ⟨congrArg boo (show decide (n ≤ b) = (decide (a ≤ n) && decide (n ≤ b)) by simp [show a ≤ n by omega]), trivial⟩
  · exact ⟨congrArg boo (show false = (decide (a ≤ n) && decide (n ≤ b)) by simp [show ¬ a ≤ n by omega]), trivial⟩

end Go.Sx.T1
namespace Go.Sx.T1
open Go.Proofs
def in8 (n a b : Int) : Bool := decide (a ≤ n) && decide (n ≤ b)
def validS (s : Stt) : Bool := eqS s zS || (s.valid && (in8 s.outcome 1 2 && (in8 s.source 0 2 && (in8 s.stamp 0 65535 && (in8 s.address 0 1048575 && s.chips / 1099511627776 == 0)))))
theorem fdiv40 (n : Int) : n.fdiv (2 ^ 40) = n / 1099511627776 := Int.fdiv_eq_ediv_of_nonneg _ (by decide)
set_option maxRecDepth 10000 in
theorem valid_fc (s : Stt) : FC Try.prog 42 [.o (.a (stC s))] [] (boo (validS s)) [] := by
  refine FC.b mix Try.func42 ?_
  refine FC.u (zero_fc s) [] ?_
  refine bsel_intro (fun h0 => ?_) (fun h0 => ?_)
  · exact ⟨congrArg boo (show true = validS s by simp [validS, h0]), trivial⟩
  refine bsel_intro (fun h1 => ?_) (fun h1 => ?_)
  rotate_left
  · exact ⟨congrArg boo (show false = validS s by simp [validS, h0, h1]), trivial⟩
  refine FC.u (between_fc s.outcome 1 2) [] ?_
  refine bsel_intro (fun h2 => ?_) (fun h2 => ?_)
  rotate_left
  · exact ⟨congrArg boo (show false = validS s by simp [validS, h0, in8, h2]), trivial⟩
  refine FC.u (between_fc s.source 0 2) [] ?_
  refine bsel_intro (fun h3 => ?_) (fun h3 => ?_)
  rotate_left
  · exact ⟨congrArg boo (show false = validS s by simp [validS, h0, in8, h3]), trivial⟩
  refine FC.u (between_fc s.stamp 0 65535) [] ?_
  refine bsel_intro (fun h4 => ?_) (fun h4 => ?_)
  rotate_left
  · exact ⟨congrArg boo (show false = validS s by simp [validS, h0, in8, h4]), trivial⟩
  refine FC.u (between_fc s.address 0 1048575) [] ?_
  refine bsel_intro (fun h5 => ?_) (fun h5 => ?_)
  rotate_left
  · exact ⟨congrArg boo (show false = validS s by simp [validS, h0, in8, h5]), trivial⟩
  refine And.intro (by decide) ?_
  refine And.intro (congrArg boo ?_) trivial
  simp only [validS, h0, in8, h1, h2, h3, h4, h5, Bool.false_or, Bool.true_and]
  rw [← fdiv40]; rfl
end Go.Sx.T1
namespace Go.Sx.T1
open Go.Proofs
theorem fv {s : Stt} (h : s.valid = false) (h0 : eqS s zS = false) : false = validS s := by simp only [validS, h0, h, Bool.false_or, Bool.false_and]
theorem validS_all {s : Stt} (h0 : eqS s zS = false) (h1 : s.valid = true) : validS s = ((decide (s.outcome = 1 ∨ s.outcome = 2)) && (decide (s.source ≥ 0) && (decide (s.source ≤ 2) && (decide (s.stamp ≥ 0) && (decide (s.stamp ≤ 65535) && (decide (s.address ≥ 0) && (decide (s.address < 1048576) && (s.chips.fdiv (2 ^ 40) == 0)))))))) := by
  simp only [validS, h0, h1, in8, Bool.false_or, Bool.true_and, fdiv40]
  have e1 : decide (s.outcome = 1 ∨ s.outcome = 2) = (decide (1 ≤ s.outcome) && decide (s.outcome ≤ 2)) := by rw [Bool.eq_iff_iff]; simp; omega
  have e2 : decide (s.address < 1048576) = decide (s.address ≤ 1048575) := by rw [Bool.eq_iff_iff]; simp; omega
  rw [e1, e2]
  simp only [ge_iff_le, Bool.and_assoc]
set_option maxRecDepth 10000 in
theorem validR_fc (s : Stt) : FC Try.prog 39 [.o (.a (stC s))] [] (boo (validS s)) [] := by
  refine FC.b mix Try.func39 ?_
  refine And.intro (by kernel_rfl) ?_
  refine bsel_intro (fun h0 => ?_) (fun h0 => ?_)
  · exact ⟨congrArg boo (show true = validS s by rw [validS, show eqS s zS = true from h0]; rfl), trivial⟩
  replace h0 : eqS s zS = false := h0
  refine bsel_intro (fun h1 => ?_) (fun h1 => ?_)
  rotate_left
  · exact ⟨congrArg boo (fv h1 h0), trivial⟩
  rw [validS_all h0 h1]
  refine bselE (fun h2 => ?_) (fun h2 => ?_)
  rotate_left
  refine bselE (fun h2' => ?_) (fun h2' => ?_)
  rotate_left
  · exact ⟨congrArg boo (by simp [h2, h2']), trivial⟩
  all_goals
    refine bselD (fun h3 => ?_) (fun h3 => ?_)
    rotate_left
    · exact ⟨congrArg boo (by simp [h3]), trivial⟩
    refine bselD (fun h4 => ?_) (fun h4 => ?_)
    rotate_left
    · exact ⟨congrArg boo (by simp [h4]), trivial⟩
    refine bselD (fun h5 => ?_) (fun h5 => ?_)
    rotate_left
    · exact ⟨congrArg boo (by simp [h5]), trivial⟩
    refine bselD (fun h6 => ?_) (fun h6 => ?_)
    rotate_left
    · exact ⟨congrArg boo (by simp [h6]), trivial⟩
    refine bselD (fun h7 => ?_) (fun h7 => ?_)
    rotate_left
    · exact ⟨congrArg boo (by simp [h7]), trivial⟩
    refine bselD (fun h8 => ?_) (fun h8 => ?_)
    rotate_left
    · exact ⟨congrArg boo (by simp [h8]), trivial⟩
    refine And.intro (by decide) ?_
    refine ⟨congrArg boo ?_, trivial⟩
    simp only [h2, h3, h4, h5, h6, h7, h8]
    first | rfl | (simp only [h2', or_true, decide_true, Bool.true_and]; rfl)
end Go.Sx.T1
namespace Go.Sx.T1
open Go.Proofs

theorem dStatus_valid (ts : List Int) (k : Nat) (a : Int) (h0 : 0 ≤ a) (h1 : a < 1048576) : validS (dStatus ts k a) = true := by
  have b1 := dv_bd ts (k + 1) (n := 2) (by omega)
  have b2 := dv_bd ts (k + 2) (n := 3) (by omega)
  have b3 := dv_bd ts (k + 3) (n := 20) (by omega)
  have b4 := dv_bd ts (k + 4) (n := 4) (by omega)
  have b5 := dv_bd ts (k + 5) (n := 1048576) (by omega)
  have hs : 0 ≤ [0, 1, dv ts (k + 3) 20, 65535].getD (dv ts (k + 4) 4).toNat 0 ∧ [0, 1, dv ts (k + 3) 20, 65535].getD (dv ts (k + 4) 4).toNat 0 ≤ 65535 := by
    have : (dv ts (k + 4) 4).toNat = 0 ∨ (dv ts (k + 4) 4).toNat = 1 ∨ (dv ts (k + 4) 4).toNat = 2 ∨ (dv ts (k + 4) 4).toNat = 3 := by omega
    rcases this with h | h | h | h <;> rw [h]
    · show (0 : Int) ≤ 0 ∧ (0 : Int) ≤ 65535; omega
    · show (0 : Int) ≤ 1 ∧ (1 : Int) ≤ 65535; omega
    · show 0 ≤ dv ts (k + 3) 20 ∧ dv ts (k + 3) 20 ≤ 65535; omega
    · show (0 : Int) ≤ 65535 ∧ (65535 : Int) ≤ 65535; omega
  simp only [validS, in8, Bool.or_eq_true, Bool.and_eq_true, decide_eq_true_eq, beq_iff_eq]
  refine .inr ⟨rfl, ?_, ?_, hs, ?_, ?_⟩
  · show 1 ≤ 1 + dv ts (k + 1) 2 ∧ 1 + dv ts (k + 1) 2 ≤ 2; omega
  · show 0 ≤ dv ts (k + 2) 3 ∧ dv ts (k + 2) 3 ≤ 2; omega
  · show 0 ≤ a ∧ a ≤ 1048575; omega
  · show dv ts (k + 5) 1048576 / 1099511627776 = 0; omega
theorem status_x (ts : List Int) (k : Nat) (a : Int) (hl : ts.length ≤ 400) (h0 : 0 ≤ a) (h1 : a < 1048576) :
    ∃ s, FC Try.prog 13 [.o (.c (.p 0 0 0)), int .i64 a] [diceB ts k, diceL ts] (.o (.a (stC s))) [diceB ts (k + 6), diceL ts] ∧ validS s = true ∧ s = dStatus ts k a := ⟨_, status_fc ts k a hl, dStatus_valid ts k a h0 h1, rfl⟩
theorem dStatus_is (ts : List Int) (k : Nat) (a : Int) : (dStatus ts k a).valid = true ∧ ((dStatus ts k a).outcome = 1 ∨ (dStatus ts k a).outcome = 2) := by
  have := dv_bd ts (k + 1) (n := 2) (by omega)
  refine ⟨rfl, ?_⟩
  show 1 + dv ts (k + 1) 2 = 1 ∨ 1 + dv ts (k + 1) 2 = 2
  omega
theorem status_v (ts : List Int) (k : Nat) (a : Int) (hl : ts.length ≤ 400) (h0 : 0 ≤ a) (h1 : a < 1048576) :
    ∃ s, FC Try.prog 13 [.o (.c (.p 0 0 0)), int .i64 a] [diceB ts k, diceL ts] (.o (.a (stC s))) [diceB ts (k + 6), diceL ts] ∧ validS s = true ∧ s.valid = true ∧ (s.outcome = 1 ∨ s.outcome = 2) :=
  ⟨_, status_fc ts k a hl, dStatus_valid ts k a h0 h1, dStatus_is ts k a⟩
theorem oddStatus_x (ts : List Int) (k : Nat) (s : Stt) (hl : ts.length ≤ 400) :
    ∃ p : Stt × Nat, FC Try.prog 29 [.o (.c (.p 0 0 0)), .o (.a (stC s))] [diceB ts k, diceL ts] (.o (.a (stC p.1))) [diceB ts p.2, diceL ts] ∧ True := ⟨(_, _), oddStatus_fc ts k s hl, trivial⟩
end Go.Sx.T1
namespace Go.Sx.T1
open Go.Proofs

structure Pl where
  a : Int
  b : Int
  c : Int
  d : Int
  e : Int
  f : Int
structure Rcd where
  seq : Int
  time : Int
  bank : Int
  st : Stt
  pl : Pl
def plC (p : Pl) : List C := [.v (.int .i64 p.a), .v (.int .i64 p.b), .v (.int .i64 p.c), .v (.int .i64 p.d), .v (.int .i64 p.e), .v (.int .i64 p.f)]
def rcC (r : Rcd) : List C := [.v (.int .i64 r.seq), .v (.int .i64 r.time), .v (.int .i64 r.bank),
  .v (.bool r.st.valid), .v (.bool r.st.overflow), .v (.int .i64 r.st.outcome), .v (.int .i64 r.st.source), .v (.int .i64 r.st.stamp), .v (.int .i64 r.st.address), .v (.int .u64 r.st.chips),
  .v (.int .i64 r.pl.a), .v (.int .i64 r.pl.b), .v (.int .i64 r.pl.c), .v (.int .i64 r.pl.d), .v (.int .i64 r.pl.e), .v (.int .i64 r.pl.f)]
def dPl (ts : List Int) (k : Nat) : Pl := ⟨dv ts k 1, dv ts (k + 1) 2, dv ts (k + 2) 1, dv ts (k + 3) 4, dv ts (k + 4) 8, dv ts (k + 5) 4⟩
set_option maxHeartbeats 3200000 in
set_option maxRecDepth 10000 in
theorem place_fc (ts : List Int) (k : Nat) (hl : ts.length ≤ 400) :
    FC Try.prog 33 [.o (.c (.p 0 0 0)), .o (.a [.v (.int .i64 0), .v (.int .i64 1), .v (.int .i64 0), .v (.int .i64 2), .v (.int .i64 3), .v (.int .i64 2)])] [diceB ts k, diceL ts] (.o (.a (plC (dPl ts k)))) [diceB ts (k + 6), diceL ts] := by
  refine FC.b mix Try.func33 ?_
  repeat (first | refine And.intro (by kernel_rfl) ?_ | refine And.intro (by decide) ?_)
  refine FC.u (next_fc ts k 1 (by omega) hl) [0, 1] ?_
  repeat (first | refine And.intro (by kernel_rfl) ?_ | refine And.intro (by decide) ?_)
  refine FC.u (next_fc ts (k + 1) 2 (by omega) hl) [0, 1] ?_
  repeat (first | refine And.intro (by kernel_rfl) ?_ | refine And.intro (by decide) ?_)
  refine FC.u (next_fc ts (k + 2) 1 (by omega) hl) [0, 1] ?_
  repeat (first | refine And.intro (by kernel_rfl) ?_ | refine And.intro (by decide) ?_)
  refine FC.u (next_fc ts (k + 3) 4 (by omega) hl) [0, 1] ?_
  repeat (first | refine And.intro (by kernel_rfl) ?_ | refine And.intro (by decide) ?_)
  refine FC.u (next_fc ts (k + 4) 8 (by omega) hl) [0, 1] ?_
  repeat (first | refine And.intro (by kernel_rfl) ?_ | refine And.intro (by decide) ?_)
  refine FC.u (next_fc ts (k + 5) 4 (by omega) hl) [0, 1] ?_
  repeat (first | refine And.intro (by kernel_rfl) ?_ | refine And.intro (by decide) ?_)
  exact trivial
def dRc (ts : List Int) (k : Nat) (seq : Int) : Rcd := ⟨seq, dv ts k 1000, dv ts (k + 1) 3, dStatus ts (k + 3) (dv ts (k + 2) 256), dPl ts (k + 9)⟩
set_option maxHeartbeats 3200000 in
set_option maxRecDepth 10000 in
theorem record_fc (ts : List Int) (k : Nat) (seq : Int) (hl : ts.length ≤ 400) :
    FC Try.prog 23 [.o (.c (.p 0 0 0)), int .i64 seq] [diceB ts k, diceL ts] (.o (.a (rcC (dRc ts k seq)))) [diceB ts (k + 15), diceL ts] := by
  refine FC.b mix Try.func23 ?_
  repeat (first | refine And.intro (by kernel_rfl) ?_ | refine And.intro (by decide) ?_)
  refine FC.u (next_fc ts k 1000 (by omega) hl) [0, 1] ?_
  refine FC.u (next_fc ts (k + 1) 3 (by omega) hl) [0, 1] ?_
  refine FC.u (next_fc ts (k + 2) 256 (by omega) hl) [0, 1] ?_
  refine FC.u (status_fc ts (k + 3) _ hl) [0, 1] ?_
  refine FC.u (place_fc ts (k + 9) hl) [0, 1] ?_
  repeat (first | refine And.intro (by kernel_rfl) ?_ | refine And.intro (by decide) ?_)
  exact trivial
end Go.Sx.T1
namespace Go.Sx.T1
open Go.Proofs
def zR : Rcd := ⟨0, 0, 0, zS, ⟨0, 0, 0, 0, 0, 0⟩⟩
def recs (l : List Rcd) (wr : Bool) : Option Blk := some ⟨.rows 16 l.length (fun i => rcC (l.getD i zR)), wr⟩
structure PlV (p : Pl) : Prop where
  a : 0 ≤ p.a ∧ p.a < 8
  b : 0 ≤ p.b ∧ p.b < 8
  c : 0 ≤ p.c ∧ p.c < 8
  d : 0 ≤ p.d ∧ p.d < 8
  e : 0 ≤ p.e ∧ p.e < 8
  f : 0 ≤ p.f ∧ p.f < 8
/-- a record that was made -/
structure RcV (r : Rcd) : Prop where
  seq : 1 ≤ r.seq ∧ r.seq ≤ 100
  time : 0 ≤ r.time ∧ r.time < 1000
  bank : 0 ≤ r.bank ∧ r.bank < 3
  st : validS r.st = true ∧ r.st.valid = true
  pl : PlV r.pl
structure RcG (l : List Rcd) : Prop where
  up : l.Pairwise (fun r s => r.seq < s.seq)
  v : ∀ r ∈ l, RcV r
theorem dRc_v (ts : List Int) (k : Nat) {q : Int} (h : 1 ≤ q ∧ q ≤ 100) : RcV (dRc ts k q) := by
  have d2 := dv_bd ts (k + 2) (n := 256) (by omega)
  have p0 := dv_bd ts (k + 9) (n := 1) (by omega)
  have p1 := dv_bd ts (k + 9 + 1) (n := 2) (by omega)
  have p2 := dv_bd ts (k + 9 + 2) (n := 1) (by omega)
  have p3 := dv_bd ts (k + 9 + 3) (n := 4) (by omega)
  have p4 := dv_bd ts (k + 9 + 4) (n := 8) (by omega)
  have p5 := dv_bd ts (k + 9 + 5) (n := 4) (by omega)
  refine ⟨h, dv_bd ts k (n := 1000) (by omega), dv_bd ts (k + 1) (n := 3) (by omega), ⟨dStatus_valid ts (k + 3) _ d2.1 (by omega), (dStatus_is ts (k + 3) _).1⟩, ?_, ?_, ?_, ?_, ?_, ?_⟩
  · exact ⟨p0.1, by show dv ts (k + 9) 1 < 8; omega⟩
  · exact ⟨p1.1, by show dv ts (k + 9 + 1) 2 < 8; omega⟩
  · exact ⟨p2.1, by show dv ts (k + 9 + 2) 1 < 8; omega⟩
  · exact ⟨p3.1, by show dv ts (k + 9 + 3) 4 < 8; omega⟩
  · exact ⟨p4.1, by show dv ts (k + 9 + 4) 8 < 8; omega⟩
  · exact ⟨p5.1, by show dv ts (k + 9 + 5) 4 < 8; omega⟩
theorem record_x (ts : List Int) (k : Nat) (q : Int) (hl : ts.length ≤ 400) (h : 1 ≤ q ∧ q ≤ 100) :
    ∃ r : Rcd, FC Try.prog 23 [.o (.c (.p 0 0 0)), int .i64 q] [diceB ts k, diceL ts] (.o (.a (rcC r))) [diceB ts (k + 15), diceL ts] ∧ RcV r ∧ r.seq = q :=
  ⟨_, record_fc ts k q hl, dRc_v ts k h, rfl⟩
structure XR where
  n : Nat
  k : Nat
  q : Int
  l : List Rcd
structure XRI (N : Nat) (x : XR) : Prop where
  n : x.l.length + x.n ≤ N
  q0 : 0 ≤ x.q
  q : x.q ≤ 3 * x.l.length
  le : ∀ r ∈ x.l, r.seq ≤ x.q
  g : RcG x.l
def recM (ts : List Int) (x : List Rcd × Nat) : Mem := [diceB ts x.2, diceL ts, recs x.1 true]
theorem rowR {p : Rcd} (l : List Rcd) (j : Nat) (hj : j < l.length + 1) :
    (if j < l.length then rcC (l.getD (0 + j) zR) else ((rcC p).drop ((0 + (j - l.length)) * 16)).take 16) = rcC ((l ++ [p]).getD j zR) := by
  by_cases h : j < l.length
  · rw [if_pos h, Nat.zero_add]
    simp [List.getD, List.getElem?_append_left h]
  · rw [if_neg h]
    obtain rfl : j = l.length := by omega
    rw [Nat.sub_self]
    simp [rcC, List.getD]
set_option maxHeartbeats 3200000 in
set_option maxRecDepth 10000 in
theorem records_fc (ts : List Int) (k N : Nat) (hl : ts.length ≤ 400) (hN : N ≤ 15) : ∃ x : List Rcd × Nat, FC Try.prog 11 [.o (.c (.p 0 0 0)), int .i64 N] [diceB ts k, diceL ts] (.o (.c (.s 2 0 x.1.length 16))) (recM ts x) ∧ RcG x.1 ∧ x.1.length ≤ N := by
  refine FC.rj mix Try.func11 ?_
  have wN : IntKind.i64.wrap ((N : Int) + 1) = (N : Int) + 1 := wrap64_in (by omega) (by omega)
  conv => whnf
  rw [wN]
  have h1 := dv_bd ts k (n := (N : Int) + 1) (by omega)
  refine FC.x (next_x ts k ((N : Int) + 1) (by omega) hl) [0, 1] (fun n en => ?_)
  rw [← en] at h1
  clear en
  obtain ⟨n, rfl⟩ : ∃ m : Nat, n = m := ⟨n.toNat, by omega⟩
  refine ALoop.goN (X := XR) (XRI N) (fun x => x.n) [0] [1] (fun x => [(5, .o (.c (.s 2 0 x.l.length 16))), (6, int .i64 x.q), (7, int .i64 x.n)])
    (fun x => [(0, ⟨.box [.s 1 0 ts.length 1, .v (.int .i64 (min x.k ts.length : Nat))], true⟩), (2, ⟨.rows 16 x.l.length (fun i => rcC (x.l.getD i zR)), true⟩)]) ⟨n, k + 1, 0, []⟩ 3
    ⟨by show 0 + n ≤ N; omega, Int.le_refl _, Int.le_refl _, (fun r h => by cases h), .nil, (fun r h => by cases h)⟩ (isAt.go [(2, .new 16)] ⟨rfl, rfl, rfl, trivial⟩ ⟨.inl rfl, ⟨.inr ⟨rfl, Nat.le_of_ble_eq_true rfl, fun _ h => absurd h (Nat.not_lt_zero _)⟩, rfl⟩, trivial⟩) ?_
  rintro ⟨n, k, q, l⟩ ⟨hn, hq0, hq, hle, hg⟩
  simp only at hn hq0 hq hle hg
  dsimp only [headF, headM]
  refine bselD (fun hgt => ?_) (fun hlt => ?_)
  · have hn0 : 0 < n := by have : (n : Int) > 0 := hgt; omega
    have wn : IntKind.i64.wrap ((n : Int) - 1) = ((n - 1 : Nat) : Int) := by rw [wrap64_in (by omega) (by omega)]; omega
    repeat refine AJoin.plain ?_
    have d3 := dv_bd ts k (n := 3) (by omega)
    refine FC.x (next_x ts k 3 (by omega) hl) [0, 1] (fun a ea => ?_)
    rw [← ea] at d3
    clear ea
    have w1 : IntKind.i64.wrap (1 + a) = 1 + a := wrap64_in (by omega) (by omega)
    have w2 : IntKind.i64.wrap (q + (1 + a)) = q + (1 + a) := wrap64_in (by omega) (by omega)
    repeat refine AJoin.plain ?_
    conv => whnf
    rw [w1, w2]
    refine FC.x (record_x ts (k + 1) (q + (1 + a)) hl ⟨by omega, by omega⟩) [0, 1] (fun r hr => ?_)
    obtain ⟨hv, hs⟩ := hr
    repeat (first | refine And.intro (by kernel_rfl) ?_ | refine And.intro (by decide) ?_)
    refine And.intro ⟨by show 0 + l.length ≤ l.length; omega, fun _ _ => rfl⟩ ?_
    refine And.intro ⟨Nat.le_of_ble_eq_true rfl, fun q hq => by have hq' : q < 1 := hq; obtain rfl : q = 0 := (by omega); rfl⟩ ?_
    refine And.intro (by show l.length + 1 ≤ 4294967296; omega) ?_
    repeat (first | refine And.intro (by kernel_rfl) ?_ | refine And.intro (by decide) ?_)
    have inv : XRI N ⟨n - 1, k + 1 + 15, q + (1 + a), l ++ [r]⟩ := by
      refine ⟨by simp; omega, by simp only; omega, by simp; omega, ?_, ?_, ?_⟩
      · intro s hs'
        simp only [List.mem_append, List.mem_singleton] at hs'
        rcases hs' with hs' | rfl
        · have := hle s hs'; simp only; omega
        · simp only; omega
      · refine List.pairwise_append.2 ⟨hg.up, List.pairwise_singleton _ _, fun s hs' t ht => ?_⟩
        simp only [List.mem_singleton] at ht
        subst ht
        have := hle s hs'
        omega
      · intro s hs'
        simp only [List.mem_append, List.mem_singleton] at hs'
        rcases hs' with hs' | rfl
        · exact hg.v s hs'
        · exact hv
    refine ⟨⟨n - 1, k + 1 + 15, q + (1 + a), l ++ [r]⟩, ⟨inv, by show n - 1 < n; omega⟩, isAt.go [(2, .to 4)] ⟨congrArg (fun n => SV.o (.c (.s 4 0 n 16))) (show l.length + 1 = (l ++ [r]).length by simp), rfl, congrArg (int .i64) wn, trivial⟩ ⟨.inl rfl, leB.rows (by simp) (fun j hj => ?_) id, trivial⟩⟩
    have hj' : j < (l ++ [r]).length := hj
    exact rowR (p := r) l j (by simpa using hj')
  · have hn0 : n = 0 := by have : ¬ (n : Int) > 0 := hlt; omega
    repeat (first | refine And.intro (by kernel_rfl) ?_ | refine And.intro (by decide) ?_)
    exact ⟨(l, k), ⟨hg, by show l.length ≤ N; omega⟩, .id rfl ⟨.inl rfl, .inl rfl, .inl rfl, trivial⟩⟩
end Go.Sx.T1
namespace Go.Sx.T1
open Go.Proofs
def toldV (b : Int) (s : Stt) : Value := .agg #[.int .i64 b, .bool s.valid, .bool s.overflow, .int .i64 s.outcome, .int .i64 s.source, .int .i64 s.stamp, .int .i64 s.address, .int .u64 s.chips]
def toldC (b : Int) (s : Stt) : List C := [.v (.int .i64 b), .v (.bool s.valid), .v (.bool s.overflow), .v (.int .i64 s.outcome), .v (.int .i64 s.source), .v (.int .i64 s.stamp), .v (.int .i64 s.address), .v (.int .u64 s.chips)]
def tells (b : Int) (s : Stt) (r : Rcd) : Bool := b == r.bank && eqS s r.st
set_option maxHeartbeats 3200000 in
set_option maxRecDepth 10000 in
theorem by_fc (b : Int) (s : Stt) (r : Rcd) : FC Try.prog 32 [.o (.a (toldC b s)), .o (.a (rcC r))] [] (boo (tells b s r)) [] := by
  refine FC.one (FC.r mix Try.func32 ?_)
  repeat (first | refine And.intro (by kernel_rfl) ?_ | refine And.intro (by decide) ?_)
  refine ⟨(), trivial, .id (congrArg boo ?_) trivial⟩
  show (b == r.bank && (eqS s r.st && true)) = tells b s r
  rw [Bool.and_true]; rfl
set_option maxHeartbeats 3200000 in
set_option maxRecDepth 10000 in
theorem idxBy (l : List Rcd) (hl : l.length ≤ 100000) (b : Int) (s : Stt) : ∃ n : Int, FC Try.prog 38 [.o (.c (.s 0 0 l.length 16)), .o (.c (.f 32 [.v (toldV b s)] []))] [recs l false] (int .i64 n) [recs l false] ∧ decide (n ≥ 0) = l.any (tells b s) := by
  refine FC.rj mix Try.func38 ?_
  refine ALoop.go (X := Nat) (fun i => i ≤ l.length ∧ ∀ j, j < i → (tells b s) (l.getD j zR) = false) (fun i => l.length - i) [0, 1, 6, 7] [0] (fun i => [(8, int .i64 i)]) (fun _ => []) 0 ⟨Nat.zero_le _, fun j hj => absurd hj (Nat.not_lt_zero _)⟩ ⟨rfl, trivial⟩ trivial ?_
  rintro i ⟨hi, hno⟩
  dsimp only [headF, headM]
  refine bselD (fun h => ?_) (fun h => ?_)
  · have h' : i < l.length := by have : (i : Int) < l.length := h; omega
    have wi : IntKind.i64.wrap ((i : Int) + 1) = ((i + 1 : Nat) : Int) := wrap64_in (by omega) (by omega)
    repeat refine AJoin.plain ?_
    refine And.intro ⟨by omega, by show (i : Int) < l.length; exact h⟩ ?_
    refine And.intro (by show 0 + i < l.length; omega) ?_
    refine FC.u (by_fc b s (l.getD (0 + (i : Int).toNat) zR)) [] ?_
    repeat refine AJoin.plain ?_
    have ei : 0 + (i : Int).toNat = i := by simp
    refine bsel_intro (fun hp => ?_) (fun hp => ?_) <;> rw [ei] at hp
    · refine ⟨(i : Int), ?_, .id rfl ⟨.inl rfl, trivial⟩⟩
      have h1 : l.any (tells b s) = true := List.any_eq_true.2 ⟨l.getD i zR, by simp [List.getD, h'], hp⟩
      rw [h1]
      exact decide_eq_true (by omega)
    · refine ⟨i + 1, ⟨⟨by omega, fun j hj => ?_⟩, by show l.length - (i + 1) < l.length - i; omega⟩, .id ⟨congrArg (int .i64) wi, trivial⟩ rfl trivial rfl⟩
      rcases Nat.lt_or_ge j i with h1 | h1
      · exact hno j h1
      · obtain rfl : j = i := by omega
        exact hp
  · repeat (first | refine And.intro (by kernel_rfl) ?_ | refine And.intro (by decide) ?_)
    refine ⟨-1, ?_, .id rfl ⟨.inl rfl, trivial⟩⟩
    have h1 : l.any (tells b s) = false := by
      rw [List.any_eq_false]
      intro r hr
      obtain ⟨j, hj, rfl⟩ := List.getElem_of_mem hr
      have := hno j (by have : ¬ (i : Int) < l.length := h; omega)
      simpa [List.getD, hj] using this
    rw [h1]
    rfl
end Go.Sx.T1
namespace Go.Sx.T1
open Go.Proofs
def Pl.get (p : Pl) (i : Nat) : Int := match i with
  | 0 => p.a
  | 1 => p.b
  | 2 => p.c
  | 3 => p.d
  | 4 => p.e
  | _ => p.f
theorem lt6 {i : Nat} (h : i < 6) : i = 0 ∨ i = 1 ∨ i = 2 ∨ i = 3 ∨ i = 4 ∨ i = 5 := by omega
/-- a record that is valid -/
structure RcOk (r : Rcd) : Prop where
  pl : ∀ j, j < 6 → 0 ≤ r.pl.get j ∧ r.pl.get j ≤ 4095
  seq : 1 ≤ r.seq ∧ r.seq ≤ 4294967296
  time : 0 ≤ r.time ∧ r.time ≤ 1099511627776
  bank : 0 ≤ r.bank ∧ r.bank < 16
  st : validS r.st = true ∧ r.st.valid = true
theorem RcV.ok {r : Rcd} (h : RcV r) : RcOk r :=
  ⟨fun j hj => by
    obtain ⟨a, b, c, d, e, f⟩ := h.pl
    rcases lt6 hj with rfl | rfl | rfl | rfl | rfl | rfl <;> simp only [Pl.get] <;> omega, by have := h.seq; omega, by have := h.time; omega, by have := h.bank; omega, h.st⟩
def rcB (r : Rcd) : Option Blk := some ⟨.box (rcC r), true⟩
def numB : Option Blk := some ⟨.rows 1 6 (fun i => [.p 0 0 (10 + i)]), true⟩
set_option maxHeartbeats 3200000 in
set_option maxRecDepth 10000 in
theorem numbers_fc (r : Rcd) : FC Try.prog 41 [.o (.c (.p 0 0 10))] [rcB r] (.o (.c (.s 1 0 6 1))) [rcB r, numB] := by
  refine FC.one (FC.r mix Try.func41 ?_)
  repeat (first | refine And.intro (by kernel_rfl) ?_ | refine And.intro (by decide) ?_)
  refine ⟨(), trivial, .id rfl ⟨.inl rfl, leB.rows (Nat.le_refl _) (fun j hj => ?_) id, trivial⟩⟩
  have hj' : j < 6 := hj
  rcases lt6 hj' with rfl | rfl | rfl | rfl | rfl | rfl <;> rfl
set_option maxHeartbeats 3200000 in
set_option maxRecDepth 10000 in
theorem recValid_fc (r : Rcd) : ∃ b : Bool, FC Try.prog 37 [.o (.a (rcC r))] [] (boo b) [] ∧ (b = true ↔ RcOk r) := by
  refine FC.rj mix Try.func37 ?_
  repeat (first | refine And.intro (by kernel_rfl) ?_ | refine And.intro (by decide) ?_)
  refine FC.u (numbers_fc r) [0] ?_
  refine ALoop.go (X := Nat) (fun i => i ≤ 6 ∧ ∀ j, j < i → 0 ≤ r.pl.get j ∧ r.pl.get j ≤ 4095) (fun i => 6 - i) [1, 6, 7] [0, 1] (fun i => [(8, int .i64 i)])
    (fun _ => []) 0 ⟨Nat.zero_le _, fun j h => absurd h (Nat.not_lt_zero _)⟩ ⟨rfl, trivial⟩ trivial ?_
  rintro i ⟨hi, ha⟩
  dsimp only [headF, headM]
  refine bselD (fun h => ?_) (fun h => ?_)
  · have h' : i < 6 := by have : (i : Int) < 6 := h; omega
    have wi : IntKind.i64.wrap ((i : Int) + 1) = ((i + 1 : Nat) : Int) := wrap64_in (by omega) (by omega)
    have bad : (0 ≤ r.pl.get i ∧ r.pl.get i ≤ 4095 → False) → (false = true ↔ RcOk r) := fun hb => ⟨fun h => (by cases h), fun v => (hb (v.pl i h')).elim⟩
    have nxt : 0 ≤ r.pl.get i ∧ r.pl.get i ≤ 4095 → ∀ j, j < i + 1 → 0 ≤ r.pl.get j ∧ r.pl.get j ≤ 4095 := fun h j hj => by
      rcases Nat.lt_or_ge j i with h' | h'
      · exact ha j h'
      · obtain rfl : j = i := by omega
        exact h
    repeat refine AJoin.plain ?_
    rcases lt6 h' with rfl | rfl | rfl | rfl | rfl | rfl <;>
    · repeat (first | refine And.intro (by kernel_rfl) ?_ | refine And.intro (by decide) ?_)
      refine bselD (fun c1 => ?_) (fun c1 => bselD (fun c2 => ?_) (fun c2 => ?_))
      · exact ⟨false, bad fun h => by have c1' := c1; exact absurd h.1 (Int.not_le.2 c1'), .id rfl trivial⟩
      · exact ⟨false, bad fun h => by have c2' := c2; exact absurd c2' (Int.not_lt.2 h.2), .id rfl trivial⟩
      · exact ⟨_, ⟨⟨by decide, nxt ⟨Int.not_lt.1 c1, Int.not_lt.1 c2⟩⟩, by decide⟩, .id ⟨congrArg (int .i64) wi, trivial⟩ rfl trivial rfl⟩
  · obtain rfl : i = 6 := by have : ¬ (i : Int) < 6 := h; omega
    have no : (RcOk r → False) → (false = true ↔ RcOk r) := fun hb => ⟨fun h => (by cases h), fun v => (hb v).elim⟩
    repeat (first | refine And.intro (by kernel_rfl) ?_ | refine And.intro (by decide) ?_)
    refine bselD (fun c1 => ?_) (fun c1 => ?_)
    rotate_left
    · exact ⟨false, no fun v => c1 v.seq.1, .id rfl trivial⟩
    refine bselD (fun c2 => ?_) (fun c2 => ?_)
    rotate_left
    · exact ⟨false, no fun v => c2 v.seq.2, .id rfl trivial⟩
    refine bselD (fun c3 => ?_) (fun c3 => ?_)
    rotate_left
    · exact ⟨false, no fun v => c3 v.time.1, .id rfl trivial⟩
    refine bselD (fun c4 => ?_) (fun c4 => ?_)
    rotate_left
    · exact ⟨false, no fun v => c4 v.time.2, .id rfl trivial⟩
    refine bselD (fun c5 => ?_) (fun c5 => ?_)
    rotate_left
    · exact ⟨false, no fun v => c5 v.bank.1, .id rfl trivial⟩
    refine bselD (fun c6 => ?_) (fun c6 => ?_)
    rotate_left
    · exact ⟨false, no fun v => c6 v.bank.2, .id rfl trivial⟩
    refine FC.u (valid_fc r.st) [] ?_
    refine bsel_intro (fun c7 => ?_) (fun c7 => ?_)
    rotate_left
    · exact ⟨false, no (fun v => by rw [v.st.1] at c7; cases c7), .id rfl trivial⟩
    refine ⟨r.st.valid, ⟨fun h => ⟨ha, ⟨c1, c2⟩, ⟨c3, c4⟩, ⟨c5, c6⟩, c7, h⟩, fun v => v.st.2⟩, .id rfl trivial⟩
set_option maxHeartbeats 3200000 in
set_option maxRecDepth 10000 in
theorem numR_fc (p : Pl) : FC Try.prog 40 [.o (.a (plC p))] [] (.o (.a (plC p))) [] := by
  refine FC.one (FC.r mix Try.func40 ?_)
  repeat (first | refine And.intro (by kernel_rfl) ?_ | refine And.intro (by decide) ?_)
  exact ⟨(), trivial, .id rfl trivial⟩
set_option maxHeartbeats 3200000 in
set_option maxRecDepth 10000 in
theorem refValid_fc (r : Rcd) : ∃ b : Bool, FC Try.prog 34 [.o (.a (rcC r))] [] (boo b) [] ∧ (b = true ↔ RcOk r) := by
  refine FC.rj mix Try.func34 ?_
  have no : (RcOk r → False) → (false = true ↔ RcOk r) := fun hb => ⟨fun h => (by cases h), fun v => (hb v).elim⟩
  repeat (first | refine And.intro (by kernel_rfl) ?_ | refine And.intro (by decide) ?_)
  refine bselD (fun c1 => ?_) (fun c1 => ?_)
  · exact ⟨false, no (fun v => (Int.not_lt.2 v.seq.1) c1), .id rfl trivial⟩
  refine bselD (fun c2 => ?_) (fun c2 => ?_)
  · exact ⟨false, no (fun v => (Int.not_lt.2 v.seq.2) c2), .id rfl trivial⟩
  refine bselD (fun c3 => ?_) (fun c3 => ?_)
  · exact ⟨false, no (fun v => (Int.not_lt.2 v.time.1) c3), .id rfl trivial⟩
  refine bselD (fun c4 => ?_) (fun c4 => ?_)
  · exact ⟨false, no (fun v => (Int.not_lt.2 v.time.2) c4), .id rfl trivial⟩
  refine bselD (fun c5 => ?_) (fun c5 => ?_)
  · exact ⟨false, no (fun v => (Int.not_lt.2 v.bank.1) c5), .id rfl trivial⟩
  refine bselD (fun c6 => ?_) (fun c6 => ?_)
  · exact ⟨false, no (fun v => (Int.not_le.2 v.bank.2) c6), .id rfl trivial⟩
  refine FC.u (validR_fc r.st) [] ?_
  refine bselNot (bsel_intro (fun c7 => ?_) (fun c7 => ?_))
  rotate_left
  · exact ⟨false, no (fun v => by rw [v.st.1] at c7; cases c7), .id rfl trivial⟩
  refine bselNot (bsel_intro (fun c8 => ?_) (fun c8 => ?_))
  rotate_left
  · exact ⟨false, no (fun v => by rw [v.st.2] at c8; cases c8), .id rfl trivial⟩
  repeat (first | refine And.intro (by kernel_rfl) ?_ | refine And.intro (by decide) ?_)
  refine FC.u (numR_fc r.pl) [] ?_
  refine ALoop.go (X := Nat) (fun i => i ≤ 6 ∧ ∀ j, j < i → 0 ≤ r.pl.get j ∧ r.pl.get j ≤ 4095) (fun i => 6 - i) [3] [1] (fun i => [(4, int .i64 i)])
    (fun _ => []) 0 ⟨Nat.zero_le _, fun j h => absurd h (Nat.not_lt_zero _)⟩ ⟨rfl, trivial⟩ trivial ?_
  rintro i ⟨hi, ha⟩
  dsimp only [headF, headM]
  refine bselD (fun h => ?_) (fun h => ?_)
  · have h' : i < 6 := by have : (i : Int) < 6 := h; omega
    have wi : IntKind.i64.wrap ((i : Int) + 1) = ((i + 1 : Nat) : Int) := wrap64_in (by omega) (by omega)
    have bad : (0 ≤ r.pl.get i ∧ r.pl.get i ≤ 4095 → False) → (false = true ↔ RcOk r) := fun hb => ⟨fun h => (by cases h), fun v => (hb (v.pl i h')).elim⟩
    have nxt : 0 ≤ r.pl.get i ∧ r.pl.get i ≤ 4095 → ∀ j, j < i + 1 → 0 ≤ r.pl.get j ∧ r.pl.get j ≤ 4095 := fun h j hj => by
      rcases Nat.lt_or_ge j i with h' | h'
      · exact ha j h'
      · obtain rfl : j = i := by omega
        exact h
    repeat refine AJoin.plain ?_
    rcases lt6 h' with rfl | rfl | rfl | rfl | rfl | rfl <;>
    · repeat (first | refine And.intro (by kernel_rfl) ?_ | refine And.intro (by decide) ?_)
      refine bselD (fun d1 => ?_) (fun d1 => ?_)
      · exact ⟨false, bad fun h => by have d1' := d1; exact absurd h.1 (Int.not_le.2 d1'), .id rfl trivial⟩
      repeat (first | refine And.intro (by kernel_rfl) ?_ | refine And.intro (by decide) ?_)
      refine bselD (fun d2 => ?_) (fun d2 => ?_)
      · exact ⟨false, bad fun h => by have d2' := d2; exact absurd d2' (Int.not_lt.2 h.2), .id rfl trivial⟩
      · exact ⟨_, ⟨⟨by decide, nxt ⟨Int.not_lt.1 d1, Int.not_lt.1 d2⟩⟩, by decide⟩, .id ⟨congrArg (int .i64) wi, trivial⟩ rfl trivial rfl⟩
  · obtain rfl : i = 6 := by have : ¬ (i : Int) < 6 := h; omega
    repeat (first | refine And.intro (by kernel_rfl) ?_ | refine And.intro (by decide) ?_)
    exact ⟨true, ⟨fun _ => ⟨ha, ⟨by omega, by omega⟩, ⟨by omega, by omega⟩, ⟨by omega, by omega⟩, c7, c8⟩, fun _ => rfl⟩, .id rfl trivial⟩
end Go.Sx.T1
namespace Go.Sx.T1
open Go.Proofs
theorem tells_iff {b : Int} {s : Stt} {r : Rcd} : tells b s r = true ↔ r.bank = b ∧ r.st = s := by
  simp only [tells, Bool.and_eq_true, beq_iff_eq, eqS_iff]
  exact ⟨fun h => ⟨h.1.symm, h.2.symm⟩, fun h => ⟨h.1.symm, h.2.symm⟩⟩
theorem tells_no {b : Int} {s : Stt} {r : Rcd} (h : ¬ (r.bank = b ∧ r.st = s)) : tells b s r = false := by
  cases h' : tells b s r with
  | false => rfl
  | true => exact absurd (tells_iff.1 h') h
set_option maxHeartbeats 3200000 in
set_option maxRecDepth 10000 in
theorem containsBy_fc (l : List Rcd) (hl : l.length ≤ 100000) (b : Int) (s : Stt) : FC Try.prog 31 [.o (.c (.s 0 0 l.length 16)), .o (.c (.f 32 [.v (toldV b s)] []))] [recs l false] (boo (l.any (tells b s))) [recs l false] := by
  refine FC.one (FC.r mix Try.func31 ?_)
  refine FC.x (idxBy l hl b s) [0] (fun n hn => ?_)
  repeat (first | refine And.intro (by kernel_rfl) ?_ | refine And.intro (by decide) ?_)
  exact ⟨(), trivial, .id (congrArg boo hn) ⟨.inl rfl, trivial⟩⟩
set_option maxHeartbeats 3200000 in
set_option maxRecDepth 10000 in
theorem known_fc (l : List Rcd) (hl : l.length ≤ 100000) (b : Int) (s : Stt) : FC Try.prog 22 [.o (.c (.s 0 0 l.length 16)), int .i64 b, .o (.a (stC s))] [recs l false] (boo (l.any (tells b s))) [recs l false] := by
  refine FC.one (FC.r mix Try.func22 ?_)
  repeat (first | refine And.intro (by kernel_rfl) ?_ | refine And.intro (by decide) ?_)
  refine FC.u (containsBy_fc l hl b s) [0] ?_
  repeat (first | refine And.intro (by kernel_rfl) ?_ | refine And.intro (by decide) ?_)
  exact ⟨(), trivial, .id rfl ⟨.inl rfl, trivial⟩⟩
set_option maxHeartbeats 3200000 in
set_option maxRecDepth 10000 in
theorem refKnown_fc (l : List Rcd) (hl : l.length ≤ 100000) (b : Int) (s : Stt) : FC Try.prog 25 [.o (.c (.s 0 0 l.length 16)), int .i64 b, .o (.a (stC s))] [recs l false] (boo (l.any (tells b s))) [recs l false] := by
  refine FC.one (FC.r mix Try.func25 ?_)
  repeat (first | refine And.intro (by kernel_rfl) ?_ | refine And.intro (by decide) ?_)
  refine ALoop.go (X := Nat) (fun i => i ≤ l.length ∧ ∀ j, j < i → tells b s (l.getD j zR) = false) (fun i => l.length - i) [0, 1, 5] [0, 1] (fun i => [(7, int .i64 i)]) (fun _ => []) 0 ⟨Nat.zero_le _, fun j hj => absurd hj (Nat.not_lt_zero _)⟩ ⟨rfl, trivial⟩ trivial ?_
  rintro i ⟨hi, hno⟩
  have ei : 0 + (i : Int).toNat = i := by simp
  dsimp only [headF, headM]
  refine bselD (fun h => ?_) (fun h => ?_)
  · have h' : i < l.length := by have : (i : Int) < l.length := h; omega
    have wi : IntKind.i64.wrap ((i : Int) + 1) = ((i + 1 : Nat) : Int) := wrap64_in (by omega) (by omega)
    have yes : tells b s (l.getD i zR) = true → l.any (tells b s) = true := fun hp => List.any_eq_true.2 ⟨l.getD i zR, by simp [List.getD, h'], hp⟩
    have go : tells b s (l.getD i zR) = false → ∀ j, j < i + 1 → tells b s (l.getD j zR) = false := fun hp j hj => by
      rcases Nat.lt_or_ge j i with h1 | h1
      · exact hno j h1
      · obtain rfl : j = i := by omega
        exact hp
    repeat refine AJoin.plain ?_
    refine And.intro ⟨by omega, h⟩ ?_
    refine And.intro (by show 0 + i < l.length; omega) ?_
    conv => whnf
    rw [ei]
    refine bselE (fun c1 => ?_) (fun c1 => ?_)
    rotate_left
    · repeat (first | refine And.intro (by kernel_rfl) ?_ | refine And.intro (by decide) ?_)
      exact ⟨i + 1, ⟨⟨by omega, go (tells_no fun h => c1 h.1)⟩, by show l.length - (i + 1) < l.length - i; omega⟩, .id ⟨congrArg (int .i64) wi, trivial⟩ rfl trivial rfl⟩
    refine And.intro ⟨by omega, h⟩ ?_
    refine And.intro (by show 0 + i < l.length; omega) ?_
    repeat (first | refine And.intro (by kernel_rfl) ?_ | refine And.intro (by decide) ?_)
    conv => whnf
    rw [ei]
    refine bsel_intro (b := eqS (l.getD i zR).st s) (fun hp => ?_) (fun hp => ?_)
    · repeat (first | refine And.intro (by kernel_rfl) ?_ | refine And.intro (by decide) ?_)
      rw [yes (tells_iff.2 ⟨c1, eqS_iff.1 hp⟩)]
      exact ⟨(), trivial, .id rfl ⟨.inl rfl, trivial⟩⟩
    · repeat (first | refine And.intro (by kernel_rfl) ?_ | refine And.intro (by decide) ?_)
      exact ⟨i + 1, ⟨⟨by omega, go (tells_no fun h => by rw [eqS_iff.2 h.2] at hp; cases hp)⟩, by show l.length - (i + 1) < l.length - i; omega⟩, .id ⟨congrArg (int .i64) wi, trivial⟩ rfl trivial rfl⟩
  · have h1 : l.any (tells b s) = false := by
      rw [List.any_eq_false]
      intro r hr
      obtain ⟨j, hj, rfl⟩ := List.getElem_of_mem hr
      have := hno j (by have : ¬ (i : Int) < l.length := h; omega)
      simpa [List.getD, hj] using this
    rw [h1]
    repeat (first | refine And.intro (by kernel_rfl) ?_ | refine And.intro (by decide) ?_)
    exact ⟨(), trivial, .id rfl ⟨.inl rfl, trivial⟩⟩
end Go.Sx.T1
namespace Go.Sx.T1
open Go.Proofs
structure Ban where
  st : Stt
  next : Int
def zB : Ban := ⟨zS, 0⟩
def banC (b : Ban) : List C := [.v (.bool b.st.valid), .v (.bool b.st.overflow), .v (.int .i64 b.st.outcome), .v (.int .i64 b.st.source), .v (.int .i64 b.st.stamp), .v (.int .i64 b.st.address), .v (.int .u64 b.st.chips), .v (.int .i64 b.next)]
def bans (l : List Ban) (wr : Bool) : Option Blk := some ⟨.rows 8 l.length (fun i => banC (l.getD i zB)), wr⟩
def frB (l : List Rcd) (bs : List Ban) (n : Nat) : Bool := (bs.getD n zB).st.valid && !(l.any (tells n (bs.getD n zB).st))
def frs (l : List Rcd) (bs : List Ban) : Nat → List Int
  | 0 => []
  | n + 1 => frs l bs n ++ (if frB l bs n then [(n : Int)] else [])
theorem frs_len (l : List Rcd) (bs : List Ban) : ∀ n, (frs l bs n).length ≤ n
  | 0 => Nat.le_refl _
  | n + 1 => by
    have := frs_len l bs n
    unfold frs
    split <;> simp <;> omega
theorem frs_yes {l : List Rcd} {bs : List Ban} {n : Nat} (h : frB l bs n = true) : frs l bs (n + 1) = frs l bs n ++ [(n : Int)] := by simp only [frs, h, if_true]
theorem frs_no {l : List Rcd} {bs : List Ban} {n : Nat} (h : frB l bs n = false) : frs l bs (n + 1) = frs l bs n := by simp [frs, h]
def frM (l : List Rcd) (bs : List Ban) (o : List Int) : Mem := [recs l false, bans bs false, i64s o true]
set_option maxHeartbeats 3200000 in
set_option maxRecDepth 10000 in
theorem fresh_fc (l : List Rcd) (bs : List Ban) (hl : l.length ≤ 100000) (hb : bs.length ≤ 100000) : ∃ o : List Int, FC Try.prog 14 [.o (.c (.s 0 0 l.length 16)), .o (.c (.s 1 0 bs.length 8))] [recs l false, bans bs false] (.o (.c (.s 2 0 o.length 1))) (frM l bs o) ∧ o = frs l bs bs.length := by
  refine FC.rj mix Try.func14 ?_
  refine ALoop.goN (X := Nat) (fun i => i ≤ bs.length) (fun i => bs.length - i) [0, 8, 9] [0, 1] (fun i => [(5, .o (.c (.s 2 0 (frs l bs i).length 1))), (10, int .i64 i)])
    (fun i => [(2, ⟨.ints .i64 (frs l bs i), true⟩)]) 0 3 (Nat.zero_le _) (isAt.go [(2, .new 1)] ⟨rfl, rfl, trivial⟩ ⟨newI 1 rfl, trivial⟩) ?_
  intro i hi
  have ei : 0 + (i : Int).toNat = i := by simp
  have fl := frs_len l bs i
  dsimp only [headF, headM]
  refine bselD (fun h => ?_) (fun h => ?_)
  · have h' : i < bs.length := by have : (i : Int) < bs.length := h; omega
    have wi : IntKind.i64.wrap ((i : Int) + 1) = ((i + 1 : Nat) : Int) := wrap64_in (by omega) (by omega)
    repeat refine AJoin.plain ?_
    refine And.intro ⟨by omega, h⟩ ?_
    refine And.intro (by show 0 + i < bs.length; omega) ?_
    repeat (first | refine And.intro (by kernel_rfl) ?_ | refine And.intro (by decide) ?_)
    conv => whnf
    rw [ei]
    refine bsel_intro (b := (bs.getD i zB).st.valid) (fun v1 => ?_) (fun v1 => ?_)
    rotate_left
    · have e := frs_no (l := l) (show frB l bs i = false by simp only [frB, v1, Bool.false_and])
      repeat refine AJoin.plain ?_
      exact ⟨i + 1, ⟨by omega, by show bs.length - (i + 1) < bs.length - i; omega⟩, isAt.go [(2, .to 2)] ⟨congrArg (fun o : List Int => SV.o (.c (.s 2 0 o.length 1))) e.symm, congrArg (int .i64) wi, trivial⟩ ⟨leB.ints_eq e.symm id, trivial⟩⟩
    refine FC.u (known_fc l hl i (bs.getD i zB).st) [0] ?_
    refine bselNot (bsel_intro (fun v2 => ?_) (fun v2 => ?_))
    · have e := frs_no (l := l) (show frB l bs i = false by simp only [frB, v1, v2, Bool.true_and, Bool.not_true])
      repeat refine AJoin.plain ?_
      exact ⟨i + 1, ⟨by omega, by show bs.length - (i + 1) < bs.length - i; omega⟩, isAt.go [(2, .to 2)] ⟨congrArg (fun o : List Int => SV.o (.c (.s 2 0 o.length 1))) e.symm, congrArg (int .i64) wi, trivial⟩ ⟨leB.ints_eq e.symm id, trivial⟩⟩
    · have e := frs_yes (l := l) (show frB l bs i = true by simp only [frB, v1, v2, Bool.true_and, Bool.not_false])
      repeat refine AJoin.plain ?_
      repeat (first | refine And.intro (by kernel_rfl) ?_ | refine And.intro (by decide) ?_)
      refine And.intro ⟨by show 0 + (frs l bs i).length ≤ (frs l bs i).length; omega, trivial⟩ ?_
      refine And.intro ⟨Nat.le_of_ble_eq_true rfl, trivial⟩ ?_
      refine And.intro (by show (frs l bs i).length + 1 ≤ 4294967296; omega) ?_
      repeat (first | refine And.intro (by kernel_rfl) ?_ | refine And.intro (by decide) ?_)
      refine ⟨i + 1, ⟨by omega, by show bs.length - (i + 1) < bs.length - i; omega⟩, isAt.go [(2, .to 5)] ⟨congrArg (fun n : Nat => SV.o (.c (.s 5 0 n 1))) (show (frs l bs i).length + 1 = (frs l bs (i + 1)).length by rw [e]; simp), congrArg (int .i64) wi, trivial⟩ ⟨leB.ints_eq ?_ id, trivial⟩⟩
      show List.take (frs l bs i).length (List.drop 0 (frs l bs i)) ++ List.take 1 (List.drop 0 [(i : Int)]) = frs l bs (i + 1)
      rw [e, List.drop_zero, List.take_length]; rfl
  · obtain rfl : i = bs.length := by have : ¬ (i : Int) < bs.length := h; omega
    repeat (first | refine And.intro (by kernel_rfl) ?_ | refine And.intro (by decide) ?_)
    exact ⟨_, rfl, isEnd.go [(2, .to 2)] rfl ⟨.inl rfl, .inl rfl, .inl rfl, trivial⟩⟩
set_option maxHeartbeats 3200000 in
set_option maxRecDepth 10000 in
theorem refFresh_fc (l : List Rcd) (bs : List Ban) (hl : l.length ≤ 100000) (hb : bs.length ≤ 100000) : ∃ o : List Int, FC Try.prog 27 [.o (.c (.s 0 0 l.length 16)), .o (.c (.s 1 0 bs.length 8))] [recs l false, bans bs false] (.o (.c (.s 2 0 o.length 1))) (frM l bs o) ∧ o = frs l bs bs.length := by
  refine FC.rj mix Try.func27 ?_
  refine ALoop.goN (X := Nat) (fun i => i ≤ bs.length) (fun i => bs.length - i) [0, 1] [0, 1] (fun i => [(5, .o (.c (.s 2 0 (frs l bs i).length 1))), (6, int .i64 i)])
    (fun i => [(2, ⟨.ints .i64 (frs l bs i), true⟩)]) 0 3 (Nat.zero_le _) (isAt.go [(2, .new 1)] ⟨rfl, rfl, trivial⟩ ⟨newI 1 rfl, trivial⟩) ?_
  intro i hi
  have ei : 0 + (i : Int).toNat = i := by simp
  have fl := frs_len l bs i
  dsimp only [headF, headM]
  refine bselD (fun h => ?_) (fun h => ?_)
  · have h' : i < bs.length := by have : (i : Int) < bs.length := h; omega
    have wi : IntKind.i64.wrap ((i : Int) + 1) = ((i + 1 : Nat) : Int) := wrap64_in (by omega) (by omega)
    repeat refine AJoin.plain ?_
    refine And.intro ⟨by omega, h⟩ ?_
    refine And.intro (by show 0 + i < bs.length; omega) ?_
    repeat (first | refine And.intro (by kernel_rfl) ?_ | refine And.intro (by decide) ?_)
    conv => whnf
    rw [ei]
    refine bsel_intro (b := (bs.getD i zB).st.valid) (fun v1 => ?_) (fun v1 => ?_)
    rotate_left
    · have e := frs_no (l := l) (show frB l bs i = false by simp only [frB, v1, Bool.false_and])
      repeat refine AJoin.plain ?_
      exact ⟨i + 1, ⟨by omega, by show bs.length - (i + 1) < bs.length - i; omega⟩, isAt.go [(2, .to 2)] ⟨congrArg (fun o : List Int => SV.o (.c (.s 2 0 o.length 1))) e.symm, congrArg (int .i64) wi, trivial⟩ ⟨leB.ints_eq e.symm id, trivial⟩⟩
    refine And.intro ⟨by omega, h⟩ ?_
    refine And.intro (by show 0 + i < bs.length; omega) ?_
    conv => whnf
    rw [ei]
    refine FC.u (refKnown_fc l hl i (bs.getD i zB).st) [0] ?_
    refine bselNot (bsel_intro (fun v2 => ?_) (fun v2 => ?_))
    · have e := frs_no (l := l) (show frB l bs i = false by simp only [frB, v1, v2, Bool.true_and, Bool.not_true])
      repeat refine AJoin.plain ?_
      exact ⟨i + 1, ⟨by omega, by show bs.length - (i + 1) < bs.length - i; omega⟩, isAt.go [(2, .to 2)] ⟨congrArg (fun o : List Int => SV.o (.c (.s 2 0 o.length 1))) e.symm, congrArg (int .i64) wi, trivial⟩ ⟨leB.ints_eq e.symm id, trivial⟩⟩
    · have e := frs_yes (l := l) (show frB l bs i = true by simp only [frB, v1, v2, Bool.true_and, Bool.not_false])
      repeat refine AJoin.plain ?_
      repeat (first | refine And.intro (by kernel_rfl) ?_ | refine And.intro (by decide) ?_)
      refine And.intro ⟨by show 0 + (frs l bs i).length ≤ (frs l bs i).length; omega, trivial⟩ ?_
      refine And.intro ⟨Nat.le_of_ble_eq_true rfl, trivial⟩ ?_
      refine And.intro (by show (frs l bs i).length + 1 ≤ 4294967296; omega) ?_
      repeat (first | refine And.intro (by kernel_rfl) ?_ | refine And.intro (by decide) ?_)
      refine ⟨i + 1, ⟨by omega, by show bs.length - (i + 1) < bs.length - i; omega⟩, isAt.go [(2, .to 4)] ⟨congrArg (fun n : Nat => SV.o (.c (.s 4 0 n 1))) (show (frs l bs i).length + 1 = (frs l bs (i + 1)).length by rw [e]; simp), congrArg (int .i64) wi, trivial⟩ ⟨leB.ints_eq ?_ id, trivial⟩⟩
      show List.take (frs l bs i).length (List.drop 0 (frs l bs i)) ++ List.take 1 (List.drop 0 [(i : Int)]) = frs l bs (i + 1)
      rw [e, List.drop_zero, List.take_length]; rfl
  · obtain rfl : i = bs.length := by have : ¬ (i : Int) < bs.length := h; omega
    repeat (first | refine And.intro (by kernel_rfl) ?_ | refine And.intro (by decide) ?_)
    exact ⟨_, rfl, isEnd.go [(2, .to 2)] rfl ⟨.inl rfl, .inl rfl, .inl rfl, trivial⟩⟩
end Go.Sx.T1
namespace Go.Sx.T1
open Go.Proofs
def lim (n : Int) : Int := min (max n 0) 65536
def stOk (b nx : Int) (r : Rcd) : Bool := r.bank == b && (decide (r.st.stamp ≥ 0) && decide (r.st.stamp < nx))
/-- the stamps of a bank below a number, each once -/
def dst (l : List Rcd) (b nx : Int) : Nat → List Int
  | 0 => []
  | n + 1 => if stOk b nx (l.getD n zR) = true ∧ (l.getD n zR).st.stamp ∉ dst l b nx n then dst l b nx n ++ [(l.getD n zR).st.stamp] else dst l b nx n
theorem dst_len (l : List Rcd) (b nx : Int) : ∀ n, (dst l b nx n).length ≤ n
  | 0 => Nat.le_refl _
  | n + 1 => by
    have := dst_len l b nx n
    unfold dst
    split <;> simp <;> omega
theorem dst_no {l : List Rcd} {b nx : Int} {n : Nat} (h : stOk b nx (l.getD n zR) = false) : dst l b nx (n + 1) = dst l b nx n := by
  have : ¬ (stOk b nx (l.getD n zR) = true ∧ (l.getD n zR).st.stamp ∉ dst l b nx n) := fun ⟨h1, _⟩ => by rw [h] at h1; cases h1
  simp only [dst, if_neg this]
theorem dst_in {l : List Rcd} {b nx : Int} {n : Nat} (h : (l.getD n zR).st.stamp ∈ dst l b nx n) : dst l b nx (n + 1) = dst l b nx n := by
  have : ¬ (stOk b nx (l.getD n zR) = true ∧ (l.getD n zR).st.stamp ∉ dst l b nx n) := fun ⟨_, h2⟩ => h2 h
  simp only [dst, if_neg this]
theorem dst_new {l : List Rcd} {b nx : Int} {n : Nat} (h : stOk b nx (l.getD n zR) = true) (h2 : (l.getD n zR).st.stamp ∉ dst l b nx n) : dst l b nx (n + 1) = dst l b nx n ++ [(l.getD n zR).st.stamp] := by
  simp only [dst, if_pos (And.intro h h2)]
def mpOf (d : List Int) : List (List Int × Value) := d.map fun s => ([s], .bool true)
theorem mput_mpOf (d : List Int) (s : Int) : mput (mpOf d) [s] (.bool true) = mpOf (if s ∈ d then d else d ++ [s]) := by
  induction d with
  | nil => rfl
  | cons a d ih =>
    unfold mpOf at ih ⊢
    simp only [List.map_cons, mput]
    by_cases h : a = s
    · subst h
      simp
    · have h' : ¬ ([a] = [s]) := fun e => h (by simpa using e)
      rw [if_neg h', ih]
      by_cases hs : s ∈ d
      · simp [hs]
      · simp [hs, Ne.symm h]
theorem dst_put (l : List Rcd) (b nx : Int) (n : Nat) (h : stOk b nx (l.getD n zR) = true) : mput (mpOf (dst l b nx n)) [(l.getD n zR).st.stamp] (.bool true) = mpOf (dst l b nx (n + 1)) := by
  rw [mput_mpOf]
  by_cases hs : (l.getD n zR).st.stamp ∈ dst l b nx n
  · rw [if_pos hs, dst_in hs]
  · rw [if_neg hs, dst_new h hs]
def msd (l : List Rcd) (b next : Int) : Int := IntKind.i64.wrap (lim next - ((dst l b (lim next) l.length).length : Nat))
set_option maxHeartbeats 3200000 in
set_option maxRecDepth 10000 in
theorem missed_fc (l : List Rcd) (hl : l.length ≤ 100000) (b next : Int) : FC Try.prog 16 [.o (.c (.s 0 0 l.length 16)), int .i64 b, int .i64 next] [recs l false] (int .i64 (msd l b next)) [recs l false] := by
  refine FC.one (FC.r mix Try.func16 ?_)
  repeat (first | refine And.intro (by kernel_rfl) ?_ | refine And.intro (by decide) ?_)
  conv => whnf
  have e : (if true = true then (if 65536 < (if false = true then (if 0 < next then 0 else next) else (if 0 > next then 0 else next)) then 65536 else (if false = true then (if 0 < next then 0 else next) else (if 0 > next then 0 else next))) else (if 65536 > (if false = true then (if 0 < next then 0 else next) else (if 0 > next then 0 else next)) then 65536 else (if false = true then (if 0 < next then 0 else next) else (if 0 > next then 0 else next)))) = lim next := by
    simp only [if_true, Bool.false_eq_true, if_false, lim]
    repeat' split
    all_goals omega
  rw [e]
  generalize hq : lim next = q
  have bq : 0 ≤ q ∧ q ≤ 65536 := by rw [← hq]; unfold lim; omega
  refine ALoop.go (X := Nat) (fun i => i ≤ l.length) (fun i => l.length - i) [0, 1, 2, 7, 15, 16] [0] (fun i => [(17, int .i64 i)]) (fun i => [(1, ⟨.map true (mpOf (dst l b q i)), true⟩)]) 0 (Nat.zero_le _) ⟨rfl, trivial⟩ ⟨.inl rfl, trivial⟩ ?_
  rintro i hi
  have ei : 0 + (i : Int).toNat = i := by simp
  dsimp only [headF, headM]
  refine bselD (fun h => ?_) (fun h => ?_)
  · have h' : i < l.length := by have : (i : Int) < l.length := h; omega
    have wi : IntKind.i64.wrap ((i : Int) + 1) = ((i + 1 : Nat) : Int) := wrap64_in (by omega) (by omega)
    repeat refine AJoin.plain ?_
    refine And.intro ⟨by omega, h⟩ ?_
    refine And.intro (by show 0 + i < l.length; omega) ?_
    repeat (first | refine And.intro (by kernel_rfl) ?_ | refine And.intro (by decide) ?_)
    conv => whnf
    rw [ei]
    clear e
    refine bselE (fun c1 => ?_) (fun c1 => ?_)
    rotate_left
    · have e := dst_no (l := l) (b := b) (nx := q) (n := i) (by simp only [stOk, beq_false_of_ne c1, Bool.false_and])
      repeat refine AJoin.plain ?_
      exact ⟨i + 1, ⟨by omega, by show l.length - (i + 1) < l.length - i; omega⟩, .id ⟨congrArg (int .i64) wi, trivial⟩ rfl ⟨.inl (congrArg (fun d => some (⟨.map true (mpOf d), true⟩ : Blk)) e.symm), trivial⟩ rfl⟩
    refine bselD (fun c2 => ?_) (fun c2 => ?_)
    rotate_left
    · have e := dst_no (l := l) (b := b) (nx := q) (n := i) (by simp only [stOk, decide_eq_false c2, Bool.false_and, Bool.and_false])
      repeat refine AJoin.plain ?_
      exact ⟨i + 1, ⟨by omega, by show l.length - (i + 1) < l.length - i; omega⟩, .id ⟨congrArg (int .i64) wi, trivial⟩ rfl ⟨.inl (congrArg (fun d => some (⟨.map true (mpOf d), true⟩ : Blk)) e.symm), trivial⟩ rfl⟩
    refine bselD (fun c3 => ?_) (fun c3 => ?_)
    rotate_left
    · have e := dst_no (l := l) (b := b) (nx := q) (n := i) (by simp only [stOk, decide_eq_false c3, Bool.and_false])
      repeat refine AJoin.plain ?_
      exact ⟨i + 1, ⟨by omega, by show l.length - (i + 1) < l.length - i; omega⟩, .id ⟨congrArg (int .i64) wi, trivial⟩ rfl ⟨.inl (congrArg (fun d => some (⟨.map true (mpOf d), true⟩ : Blk)) e.symm), trivial⟩ rfl⟩
    · have e := dst_put l b q i (by simp only [stOk, c1, beq_self_eq_true, decide_eq_true c2, decide_eq_true c3, Bool.and_self])
      repeat refine AJoin.plain ?_
      repeat (first | refine And.intro (by kernel_rfl) ?_ | refine And.intro (by decide) ?_)
      exact ⟨i + 1, ⟨by omega, by show l.length - (i + 1) < l.length - i; omega⟩, .id ⟨congrArg (int .i64) wi, trivial⟩ rfl ⟨.inl (congrArg (fun d => some (⟨.map true d, true⟩ : Blk)) e), trivial⟩ rfl⟩
  · obtain rfl : i = l.length := by have : ¬ (i : Int) < l.length := h; omega
    repeat (first | refine And.intro (by kernel_rfl) ?_ | refine And.intro (by decide) ?_)
    refine ⟨(), trivial, .id (congrArg (int .i64) ?_) ⟨.inl rfl, trivial⟩⟩
    show IntKind.i64.wrap (q - ((mpOf (dst l b q l.length)).length : Nat)) = msd l b next
    rw [msd, hq, mpOf, List.length_map]
end Go.Sx.T1
namespace Go.Sx.T1
open Go.Proofs
def bl (d : List Int) (N : Nat) : List Bool := (List.range N).map fun j : Nat => decide ((j : Int) ∈ d)
theorem bl_len (d : List Int) (N : Nat) : (bl d N).length = N := by simp [bl]
theorem bl_nil (N : Nat) : List.replicate N false = bl [] N := by
  apply List.ext_getElem
  · simp [bl]
  · intro i h1 h2; simp [bl]
theorem bl_get (d : List Int) {N j : Nat} (h : j < N) : (bl d N).getD j false = decide ((j : Int) ∈ d) := by simp [bl, List.getD, h]
theorem bl_set (d : List Int) {N j : Nat} (h : j < N) : (bl d N).set j true = bl (d ++ [(j : Int)]) N := by
  apply List.ext_getElem
  · simp [bl]
  · intro i h1 h2
    simp only [bl, List.getElem_set, List.getElem_map, List.getElem_range]
    by_cases e : j = i
    · subst e; simp
    · have : ¬ ((i : Int) = j) := by omega
      simp [e, this]
theorem dst_zero (l : List Rcd) (b : Int) : ∀ n, dst l b 0 n = []
  | 0 => rfl
  | n + 1 => by
    rw [dst_no, dst_zero l b n]
    cases h : stOk b 0 (l.getD n zR) with
    | false => rfl
    | true => simp only [stOk, Bool.and_eq_true, decide_eq_true_eq] at h; omega
theorem msd_neg (l : List Rcd) (b : Int) {next : Int} (h : next < 0) : msd l b next = 0 := by
  have e : lim next = 0 := by unfold lim; omega
  rw [msd, e, dst_zero]; rfl
set_option maxHeartbeats 3200000 in
set_option maxRecDepth 10000 in
theorem refMissed_fc (l : List Rcd) (hl : l.length ≤ 100000) (b next : Int) : FC Try.prog 28 [.o (.c (.s 0 0 l.length 16)), int .i64 b, int .i64 next] [recs l false] (int .i64 (msd l b next)) [recs l false] := by
  refine FC.one (FC.rj mix Try.func28 ?_)
  refine bselD (fun h0 => ?_) (fun h0 => ?_)
  · repeat (first | refine And.intro (by kernel_rfl) ?_ | refine And.intro (by decide) ?_)
    exact ⟨(), trivial, .id (congrArg (int .i64) (msd_neg l b h0).symm) ⟨.inl rfl, trivial⟩⟩
  refine AJoin.cut (X := Int) (fun q => lim next = q) [0, 1, 6] [0] (fun q => [(2, int .i64 q)]) (fun _ => []) ?_ ?_
  · refine bselD (fun h1 => ?_) (fun h1 => ?_)
    · have hq : lim next = 65536 := by unfold lim; omega
      repeat (first | refine And.intro (by kernel_rfl) ?_ | refine And.intro (by decide) ?_)
      exact ⟨65536, hq, .id ⟨rfl, trivial⟩ rfl trivial rfl⟩
    · have hq : lim next = next := by unfold lim; omega
      repeat (first | refine And.intro (by kernel_rfl) ?_ | refine And.intro (by decide) ?_)
      exact ⟨next, hq, .id ⟨rfl, trivial⟩ rfl trivial rfl⟩
  · intro q hq
    have bq : 0 ≤ q ∧ q ≤ 65536 := by rw [← hq]; unfold lim; omega
    refine And.intro ⟨by omega, rfl, by omega⟩ ?_
    conv => whnf
    rw [bl_nil]
    refine ALoop.go (X := Nat) (fun i => i ≤ l.length) (fun i => l.length - i) [0, 1, 2, 7] [0] (fun i => [(8, int .i64 (q - ((dst l b q i).length : Nat))), (9, int .i64 i)]) (fun i => [(1, ⟨.bools (bl (dst l b q i) (q : Int).toNat), true⟩)]) 0 (Nat.zero_le _) ⟨congrArg (int .i64) (show (q : Int) = q - ((0 : Nat) : Int) by omega), rfl, trivial⟩ ⟨.inl rfl, trivial⟩ ?_
    rintro i hi
    have ei : 0 + (i : Int).toNat = i := by simp
    have dl := dst_len l b q i
    dsimp only [headF, headM]
    refine bselD (fun h => ?_) (fun h => ?_)
    · have h' : i < l.length := by have : (i : Int) < l.length := h; omega
      have wi : IntKind.i64.wrap ((i : Int) + 1) = ((i + 1 : Nat) : Int) := wrap64_in (by omega) (by omega)
      have stay : dst l b q (i + 1) = dst l b q i → SV.o (.c (.v (.int .i64 (q - ((dst l b q i).length : Nat))))) = int .i64 (q - ((dst l b q (i + 1)).length : Nat)) ∧ (some (⟨.bools (bl (dst l b q i) (q : Int).toNat), true⟩ : Blk)) = some ⟨.bools (bl (dst l b q (i + 1)) (q : Int).toNat), true⟩ := fun e => by rw [e]; exact ⟨rfl, rfl⟩
      repeat refine AJoin.plain ?_
      refine And.intro ⟨by omega, h⟩ ?_
      refine And.intro (by show 0 + i < l.length; omega) ?_
      repeat (first | refine And.intro (by kernel_rfl) ?_ | refine And.intro (by decide) ?_)
      conv => whnf
      rw [ei]
      refine And.intro ⟨by omega, h⟩ ?_
      refine And.intro h' ?_
      refine bselE (fun c1 => ?_) (fun c1 => ?_)
      rotate_left
      · obtain ⟨e1, e2⟩ := stay (dst_no (n := i) (by simp only [stOk, beq_false_of_ne c1, Bool.false_and]))
        repeat refine AJoin.plain ?_
        exact ⟨i + 1, ⟨by omega, by show l.length - (i + 1) < l.length - i; omega⟩, .id ⟨e1, congrArg (int .i64) wi, trivial⟩ rfl ⟨.inl e2, trivial⟩ rfl⟩
      refine bselD (fun c2 => ?_) (fun c2 => ?_)
      rotate_left
      · obtain ⟨e1, e2⟩ := stay (dst_no (n := i) (by simp only [stOk, decide_eq_false c2, Bool.false_and, Bool.and_false]))
        repeat refine AJoin.plain ?_
        exact ⟨i + 1, ⟨by omega, by show l.length - (i + 1) < l.length - i; omega⟩, .id ⟨e1, congrArg (int .i64) wi, trivial⟩ rfl ⟨.inl e2, trivial⟩ rfl⟩
      refine bselD (fun c3 => ?_) (fun c3 => ?_)
      rotate_left
      · obtain ⟨e1, e2⟩ := stay (dst_no (n := i) (by simp only [stOk, decide_eq_false c3, Bool.and_false]))
        repeat refine AJoin.plain ?_
        exact ⟨i + 1, ⟨by omega, by show l.length - (i + 1) < l.length - i; omega⟩, .id ⟨e1, congrArg (int .i64) wi, trivial⟩ rfl ⟨.inl e2, trivial⟩ rfl⟩
      have ok : stOk b q (l.getD i zR) = true := by simp only [stOk, c1, beq_self_eq_true, decide_eq_true c2, decide_eq_true c3, Bool.and_self]
      have hs : ∃ s : Nat, (l.getD i zR).st.stamp = s := ⟨(l.getD i zR).st.stamp.toNat, by omega⟩
      obtain ⟨s, hs⟩ := hs
      have hsN : s < (q : Int).toNat := by omega
      refine And.intro ⟨by omega, by omega⟩ ?_
      refine And.intro (by show 0 + ((l.getD i zR).st.stamp).toNat < (bl (dst l b q i) (q : Int).toNat).length; rw [bl_len]; omega) ?_
      have es : 0 + (l.getD i zR).st.stamp.toNat = s := by omega
      have eg : (bl (dst l b q i) (q : Int).toNat).getD (0 + (l.getD i zR).st.stamp.toNat) false = decide ((l.getD i zR).st.stamp ∈ dst l b q i) := by rw [es, bl_get _ hsN, hs]
      refine bselNot (bsel_intro (fun c4 => ?_) (fun c4 => ?_)) <;> rw [eg] at c4
      · obtain ⟨e1, e2⟩ := stay (dst_in (n := i) (of_decide_eq_true c4))
        repeat refine AJoin.plain ?_
        exact ⟨i + 1, ⟨by omega, by show l.length - (i + 1) < l.length - i; omega⟩, .id ⟨e1, congrArg (int .i64) wi, trivial⟩ rfl ⟨.inl e2, trivial⟩ rfl⟩
      · have e := dst_new ok (of_decide_eq_false c4)
        repeat refine AJoin.plain ?_
        refine And.intro ⟨by omega, by omega⟩ ?_
        refine And.intro (by show 0 + ((l.getD i zR).st.stamp).toNat < (bl (dst l b q i) (q : Int).toNat).length; rw [bl_len]; omega) ?_
        refine ⟨i + 1, ⟨by omega, by show l.length - (i + 1) < l.length - i; omega⟩, .id ⟨congrArg (int .i64) ?_, congrArg (int .i64) wi, trivial⟩ rfl ⟨.inl (congrArg (fun d => some (⟨.bools d, true⟩ : Blk)) ?_), trivial⟩ rfl⟩
        · show IntKind.i64.wrap (q - ((dst l b q i).length : Nat) - 1) = q - ((dst l b q (i + 1)).length : Nat)
          rw [e, wrap64_in (by omega) (by omega)]
          simp; omega
        · show (bl (dst l b q i) (q : Int).toNat).set (0 + (l.getD i zR).st.stamp.toNat) true = bl (dst l b q (i + 1)) (q : Int).toNat
          rw [es, bl_set _ hsN, e, hs]
    · obtain rfl : i = l.length := by have : ¬ (i : Int) < l.length := h; omega
      repeat (first | refine And.intro (by kernel_rfl) ?_ | refine And.intro (by decide) ?_)
      refine ⟨(), trivial, .id (congrArg (int .i64) ?_) ⟨.inl rfl, trivial⟩⟩
      show q - ((dst l b q l.length).length : Nat) = msd l b next
      rw [msd, hq, wrap64_in (by omega) (by omega)]
end Go.Sx.T1
namespace Go.Sx.T1
open Go.Proofs
def s0 : Stt := ⟨true, false, 1, 0, 2, 0, 0⟩
def r0 : Rcd := ⟨1, 0, 0, ⟨true, false, 1, 0, 2, 0, 0⟩, ⟨0, 0, 0, 0, 0, 0⟩⟩
def b3 : List Ban := [⟨⟨true, false, 1, 0, 2, 0, 0⟩, 0⟩, ⟨⟨true, false, 1, 0, 2, 0, 0⟩, 0⟩, ⟨⟨false, false, 0, 0, 0, 0, 0⟩, 0⟩]
theorem fresh0 : FC Try.prog 14 [.o (.c (.s 0 0 1 16)), .o (.c (.s 1 0 3 8))] [recs [r0] false, bans b3 false] (.o (.c (.s 2 0 1 1))) [recs [r0] false, bans b3 false, i64s [1] true] := by
  obtain ⟨o, h, e⟩ := fresh_fc [r0] b3 (by decide) (by decide)
  have : o = [1] := e.trans (by decide +kernel)
  subst this
  exact h
theorem known0 (b : Int) (c : Bool) (h : (b == 0) = c) : FC Try.prog 22 [.o (.c (.s 0 0 1 16)), int .i64 b, .o (.a (stC s0))] [recs [r0] false] (boo c) [recs [r0] false] := by
  have := known_fc [r0] (by decide) b s0
  rw [show ([r0].any (tells b s0)) = c by rw [← h]; simp [tells, r0, s0, eqS]] at this
  exact this
theorem missed0 : FC Try.prog 16 [.o (.c (.s 0 0 1 16)), int .i64 0, int .i64 3] [recs [r0] false] (int .i64 2) [recs [r0] false] := by
  have := missed_fc [r0] (by decide) 0 3
  rw [show msd [r0] 0 3 = 2 by decide +kernel] at this
  exact this
theorem msd_nil (b n : Int) : msd [] b n = lim n := by
  show IntKind.i64.wrap (lim n - ((0 : Nat) : Int)) = lim n
  rw [wrap64_in (by unfold lim; omega) (by unfold lim; omega)]; omega
theorem missedN (b n : Int) : FC Try.prog 16 [.o (.c (.s 0 0 0 16)), int .i64 b, int .i64 n] [recs [] false] (int .i64 (lim n)) [recs [] false] := by
  have := missed_fc [] (by decide) b n
  rw [msd_nil] at this
  exact this
set_option maxHeartbeats 3200000 in
set_option maxRecDepth 10000 in
theorem awake_fc : FC Try.prog 9 [] [] (boo true) [] := by
  refine FC.one (FC.r mix Try.func9 ?_)
  repeat (first | refine And.intro (by kernel_rfl) ?_ | refine And.intro (by decide) ?_)
  refine FC.u fresh0 [1, 2] ?_ (hrd := ?_)
  rotate_left
  · refine ⟨.inr (.inr (leB.rows (Nat.le_refl _) (fun i hi => ?_) (fun h => by cases h))), .inr (.inr (leB.rows (Nat.le_refl _) (fun i hi => ?_) (fun h => by cases h))), trivial⟩
    · have hi' : i < 1 := hi
      obtain rfl : i = 0 := by omega
      rfl
    · have hi' : i < 3 := hi
      obtain rfl | rfl | rfl : i = 0 ∨ i = 1 ∨ i = 2 := by omega
      · rfl
      · rfl
      · rfl
  repeat (first | refine And.intro (by kernel_rfl) ?_ | refine And.intro (by decide) ?_)
  refine FC.u (known0 0 true rfl) [1] ?_ (hrd := ?_)
  rotate_left
  · refine ⟨.inr (.inr (leB.rows (Nat.le_refl _) (fun i hi => ?_) (fun h => by cases h))), trivial⟩
    have hi' : i < 1 := hi
    obtain rfl : i = 0 := by omega
    rfl
  repeat (first | refine And.intro (by kernel_rfl) ?_ | refine And.intro (by decide) ?_)
  refine FC.u (known0 1 false rfl) [1] ?_ (hrd := ?_)
  rotate_left
  · refine ⟨.inr (.inr (leB.rows (Nat.le_refl _) (fun i hi => ?_) (fun h => by cases h))), trivial⟩
    have hi' : i < 1 := hi
    obtain rfl : i = 0 := by omega
    rfl
  repeat (first | refine And.intro (by kernel_rfl) ?_ | refine And.intro (by decide) ?_)
  refine FC.u missed0 [1] ?_ (hrd := ?_)
  rotate_left
  · refine ⟨.inr (.inr (leB.rows (Nat.le_refl _) (fun i hi => ?_) (fun h => by cases h))), trivial⟩
    have hi' : i < 1 := hi
    obtain rfl : i = 0 := by omega
    rfl
  repeat (first | refine And.intro (by kernel_rfl) ?_ | refine And.intro (by decide) ?_)
  refine acall.nilAt 0 0 16 (.rows 16 0 (fun i => rcC (([] : List Rcd).getD i zR))) ?_
  refine FC.u (missedN 0 3) [4] ?_
  repeat (first | refine And.intro (by kernel_rfl) ?_ | refine And.intro (by decide) ?_)
  exact ⟨(), trivial, .id rfl trivial⟩
end Go.Sx.T1
namespace Go.Sx.T1.Settles
open Go.Proofs Go.Sx.T1
def moR (bs : List Ban) (o : List Int) (n : Nat) : Rcd := ⟨IntKind.i64.wrap (100 + n), 0, o.getD n 0, (bs.getD (o.getD n 0).toNat zB).st, ⟨0, 0, 0, 0, 0, 0⟩⟩
def mo (l : List Rcd) (bs : List Ban) (o : List Int) : Nat → List Rcd
  | 0 => l
  | n + 1 => mo l bs o n ++ [moR bs o n]
theorem mo_len (l : List Rcd) (bs : List Ban) (o : List Int) : ∀ n, (mo l bs o n).length = l.length + n
  | 0 => rfl
  | n + 1 => by simp only [mo, List.length_append, mo_len l bs o n, List.length_singleton]; omega
theorem mo_get (l : List Rcd) (bs : List Ban) (o : List Int) {i : Nat} (h : i < l.length) : ∀ n, (mo l bs o n).getD i zR = l.getD i zR
  | 0 => rfl
  | n + 1 => by
    have hl := mo_len l bs o n
    rw [mo, ← mo_get l bs o h n]
    simp only [List.getD, List.getElem?_append_left (show i < (mo l bs o n).length by omega)]
theorem mo_sub (l : List Rcd) (bs : List Ban) (o : List Int) {r : Rcd} (h : r ∈ l) : ∀ n, r ∈ mo l bs o n
  | 0 => h
  | n + 1 => by simp only [mo, List.mem_append]; exact .inl (mo_sub l bs o h n)
theorem mo_new (l : List Rcd) (bs : List Ban) (o : List Int) {j : Nat} : ∀ n, j < n → moR bs o j ∈ mo l bs o n
  | 0, h => by omega
  | n + 1, h => by
    simp only [mo, List.mem_append, List.mem_singleton]
    by_cases e : j = n
    · exact .inr (by rw [e])
    · exact .inl (mo_new l bs o n (by omega))
theorem dst_ext {l m : List Rcd} {b q : Int} : ∀ {n : Nat}, (∀ j, j < n → l.getD j zR = m.getD j zR) → dst l b q n = dst m b q n
  | 0, _ => rfl
  | n + 1, h => by
    simp only [dst, dst_ext (n := n) fun j hj => h j (by omega), h n (by omega)]
theorem dst_step (l : List Rcd) (b q : Int) (n : Nat) : (dst l b q n).length ≤ (dst l b q (n + 1)).length := by
  by_cases h : stOk b q (l.getD n zR) = true ∧ (l.getD n zR).st.stamp ∉ dst l b q n
  · rw [dst_new h.1 h.2]; simp
  · rw [show dst l b q (n + 1) = dst l b q n by simp only [dst, if_neg h]]; exact Nat.le_refl _
theorem dst_mono (l : List Rcd) (b q : Int) (n : Nat) : ∀ d, (dst l b q n).length ≤ (dst l b q (n + d)).length
  | 0 => Nat.le_refl _
  | d + 1 => Nat.le_trans (dst_mono l b q n d) (dst_step l b q (n + d))
theorem frs_bd {l : List Rcd} {bs : List Ban} : ∀ {n : Nat} {x : Int}, x ∈ frs l bs n → 0 ≤ x ∧ x < n
  | 0, _, h => by cases h
  | n + 1, x, h => by
    simp only [frs, List.mem_append] at h
    rcases h with h | h
    · have := frs_bd h; omega
    · split at h
      · simp only [List.mem_singleton] at h; omega
      · cases h
theorem frs_mem {l : List Rcd} {bs : List Ban} {i : Nat} (hi : frB l bs i = true) : ∀ {n : Nat}, i < n → (i : Int) ∈ frs l bs n
  | 0, h => by omega
  | n + 1, h => by
    simp only [frs, List.mem_append]
    by_cases e : i = n
    · subst e; exact .inr (by rw [if_pos hi]; simp)
    · exact .inl (frs_mem hi (by omega))
theorem frs_empty {l : List Rcd} {bs : List Ban} : ∀ {n : Nat}, (∀ i, i < n → frB l bs i = false) → frs l bs n = []
  | 0, _ => rfl
  | n + 1, h => by rw [frs_no (h n (by omega)), frs_empty fun i hi => h i (by omega)]
/-- once there is a record for each fresh bank, none is fresh -/
theorem settled (l : List Rcd) (bs : List Ban) : frs (mo l bs (frs l bs bs.length) (frs l bs bs.length).length) bs bs.length = [] := by
  refine frs_empty fun i hi => ?_
  generalize ho : frs l bs bs.length = o
  cases hv : (bs.getD i zB).st.valid with
  | false => simp only [frB, hv, Bool.false_and]
  | true =>
    have : (mo l bs o o.length).any (tells i (bs.getD i zB).st) = true := by
      cases ha : l.any (tells i (bs.getD i zB).st) with
      | true =>
        obtain ⟨r, hr, ht⟩ := List.any_eq_true.1 ha
        exact List.any_eq_true.2 ⟨r, mo_sub l bs o hr _, ht⟩
      | false =>
        have hm : (i : Int) ∈ o := by rw [← ho]; exact frs_mem (by simp only [frB, hv, ha, Bool.true_and, Bool.not_false]) hi
        obtain ⟨j, hj, e⟩ := List.getElem_of_mem hm
        have eg : o.getD j 0 = i := by simp [List.getD, hj, e]
        refine List.any_eq_true.2 ⟨moR bs o j, mo_new l bs o _ hj, tells_iff.2 ⟨eg, ?_⟩⟩
        show (bs.getD (o.getD j 0).toNat zB).st = _
        rw [eg]; rfl
    simp only [frB, hv, this, Bool.true_and, Bool.not_true]
theorem fewer (l : List Rcd) (bs : List Ban) (o : List Int) (q : Int) (hl : l.length ≤ 1000) (ho : o.length ≤ 1000) (hq : 0 ≤ q ∧ q < 100) : msd (mo l bs o o.length) 0 q ≤ msd l 0 q ∧ msd l 0 q ≤ q := by
  have el : lim q = q := by unfold lim; omega
  have e1 : dst l 0 q l.length = dst (mo l bs o o.length) 0 q l.length := dst_ext fun j hj => (mo_get l bs o hj _).symm
  have e2 := dst_mono (mo l bs o o.length) 0 q l.length o.length
  have e3 := dst_len l 0 q l.length
  have e4 := dst_len (mo l bs o o.length) 0 q (l.length + o.length)
  rw [← e1] at e2
  rw [msd, msd, el, mo_len, wrap64_in (by omega) (by omega), wrap64_in (by omega) (by omega)]
  omega
structure BW where
  n : Nat
  k : Nat
  bs : List Ban
theorem rowB {p : Ban} (l : List Ban) (j : Nat) (hj : j < l.length + 1) :
    (if j < l.length then banC (l.getD (0 + j) zB) else ((banC p).drop ((0 + (j - l.length)) * 8)).take 8) = banC ((l ++ [p]).getD j zB) := by
  by_cases h : j < l.length
  · rw [if_pos h, Nat.zero_add]
    simp [List.getD, List.getElem?_append_left h]
  · rw [if_neg h]
    obtain rfl : j = l.length := by omega
    rw [Nat.sub_self]
    simp [banC, List.getD]
set_option maxHeartbeats 3200000 in
set_option maxRecDepth 10000 in
theorem law (ts : List Int) (next : Int) : FC Try.prog 3 [.o (.c (.s 0 0 ts.length 1)), int .i64 next] [diceL ts] (boo true) [diceL ts] := by
  refine FC.one (FC.rj mix Try.func3 ?_)
  refine FC.u (light_fc ts) [0] ?_
  refine bselNot (bsel_intro (fun h => ?_) (fun h => ?_))
  rotate_left
  · refine FC.u awake_fc [] ?_
    exact ⟨(), trivial, .id rfl ⟨.inl rfl, trivial⟩⟩
  have hl : ts.length ≤ 400 := of_decide_eq_true h
  refine FC.u (roll_fc ts) [0] ?_
  refine FC.x (records_fc ts 0 6 hl (by omega)) [1, 0] (fun x hx => ?_)
  obtain ⟨l, k⟩ := x
  obtain ⟨hg, hlen⟩ := hx
  simp only at hg hlen
  have d6 := dv_bd ts k (n := 6) (by omega)
  refine FC.x (next_x ts k 6 (by omega) hl) [1, 0] (fun n en => ?_)
  rw [← en] at d6
  clear en
  obtain ⟨n, rfl⟩ : ∃ m : Nat, n = m := ⟨n.toNat, by omega⟩
  refine ALoop.goN (X := BW) (fun x => x.n + x.bs.length ≤ 5) (fun x => x.n) [1, 4, 5, 6] [0, 2] (fun x => [(7, .o (.c (.s 3 0 x.bs.length 8))), (8, int .i64 x.n)])
    (fun x => [(1, ⟨.box [.s 0 0 ts.length 1, .v (.int .i64 (min x.k ts.length : Nat))], true⟩), (3, ⟨.rows 8 x.bs.length (fun i => banC (x.bs.getD i zB)), true⟩)]) ⟨n, k + 1, []⟩ 4
    (by show n + 0 ≤ 5; omega) (isAt.go [(3, .new 8)] ⟨rfl, rfl, trivial⟩ ⟨.inl rfl, ⟨.inr ⟨rfl, Nat.le_of_ble_eq_true rfl, fun _ h => absurd h (Nat.not_lt_zero _)⟩, rfl⟩, trivial⟩) ?_
  rintro ⟨n, k, bs⟩ hn
  simp only at hn
  dsimp only [headF, headM]
  refine bselD (fun hgt => ?_) (fun hle => ?_)
  · have hn0 : 0 < n := by have : (n : Int) > 0 := hgt; omega
    have wn : IntKind.i64.wrap ((n : Int) - 1) = ((n - 1 : Nat) : Int) := by rw [wrap64_in (by omega) (by omega)]; omega
    repeat refine AJoin.plain ?_
    have a3 := dv_bd ts k (n := 256) (by omega)
    refine FC.x (next_x ts k 256 (by omega) hl) [1, 0] (fun n3 e3 => ?_)
    rw [← e3] at a3
    clear e3
    refine FC.x (status_x ts (k + 1) n3 hl (by omega) (by omega)) [1, 0] (fun u hu => ?_)
    clear hu
    repeat (first | refine And.intro (by kernel_rfl) ?_ | refine And.intro (by decide) ?_)
    refine And.intro ⟨by show 0 + bs.length ≤ bs.length; omega, fun _ _ => rfl⟩ ?_
    refine And.intro ⟨Nat.le_of_ble_eq_true rfl, fun q hq => by have hq' : q < 1 := hq; obtain rfl : q = 0 := (by omega); rfl⟩ ?_
    refine And.intro (by show bs.length + 1 ≤ 4294967296; omega) ?_
    repeat (first | refine And.intro (by kernel_rfl) ?_ | refine And.intro (by decide) ?_)
    refine ⟨⟨n - 1, k + 1 + 6, bs ++ [⟨u, 0⟩]⟩, ⟨by simp; omega, by show n - 1 < n; omega⟩, isAt.go [(3, .to 5)] ⟨congrArg (fun n => SV.o (.c (.s 5 0 n 8))) (show bs.length + 1 = (bs ++ [(⟨u, 0⟩ : Ban)]).length by simp), congrArg (int .i64) wn, trivial⟩ ⟨.inl rfl, leB.rows (by simp) (fun j hj => ?_) id, trivial⟩⟩
    have hj' : j < (bs ++ [(⟨u, 0⟩ : Ban)]).length := hj
    exact rowB (p := ⟨u, 0⟩) bs j (by simpa using hj')
  · repeat refine AJoin.plain ?_
    refine FC.x (fresh_fc l bs (by omega) (by omega)) [2, 3] (fun o ho => ?_)
    have bo : o.length ≤ 5 := by rw [ho]; have := frs_len l bs bs.length; omega
    have bd : ∀ x ∈ o, 0 ≤ x ∧ x < bs.length := fun x hx => by rw [ho] at hx; exact frs_bd hx
    repeat (first | refine And.intro (by kernel_rfl) ?_ | refine And.intro (by decide) ?_)
    refine And.intro ⟨by show 0 + l.length ≤ l.length; omega, fun _ _ => rfl⟩ ?_
    refine And.intro (by show 0 + l.length ≤ 4294967296; omega) ?_
    repeat (first | refine And.intro (by kernel_rfl) ?_ | refine And.intro (by decide) ?_)
    refine ALoop.goN (X := Nat) (fun i => i ≤ o.length) (fun i => o.length - i) [1, 4, 6, 7, 9] [0, 2, 3, 4] (fun i => [(10, .o (.c (.s 5 0 (mo l bs o i).length 16))), (11, int .i64 i)])
      (fun i => [(5, ⟨.rows 16 (mo l bs o i).length (fun j => rcC ((mo l bs o i).getD j zR)), true⟩)]) 0 6
      (Nat.zero_le _) (isAt.go [(5, .to 5)] ⟨congrArg (fun n => SV.o (.c (.s 5 0 n 16))) (Nat.zero_add _), rfl, trivial⟩ ⟨leB.rows (Nat.le_refl l.length) (fun j hj => ?_) id, trivial⟩) ?_
    · show rcC (l.getD (0 + j) zR) = rcC (l.getD j zR)
      rw [Nat.zero_add]
    intro i hi
    have ei : 0 + (i : Int).toNat = i := by simp
    have ml := mo_len l bs o i
    dsimp only [headF, headM]
    refine bselD (fun h => ?_) (fun h => ?_)
    · have h' : i < o.length := by have : (i : Int) < o.length := h; omega
      have wi : IntKind.i64.wrap ((i : Int) + 1) = ((i + 1 : Nat) : Int) := wrap64_in (by omega) (by omega)
      have b1 := bd (o.getD i 0) (by simp [List.getD, h'])
      repeat refine AJoin.plain ?_
      refine And.intro ⟨by omega, h⟩ ?_
      refine And.intro (by show 0 + i < o.length; omega) ?_
      conv => whnf
      rw [ei]
      refine bselD (fun c => absurd c (by omega)) (fun _ => ?_)
      refine And.intro ⟨by omega, h⟩ ?_
      refine And.intro (by show 0 + i < o.length; omega) ?_
      refine bselD (fun c => absurd c (by rw [ei]; omega)) (fun _ => ?_)
      repeat refine AJoin.plain ?_
      refine And.intro ⟨by omega, h⟩ ?_
      refine And.intro (by show 0 + i < o.length; omega) ?_
      refine And.intro ⟨by omega, h⟩ ?_
      refine And.intro (by show 0 + i < o.length; omega) ?_
      conv => whnf
      rw [ei]
      refine And.intro ⟨b1.1, b1.2⟩ ?_
      refine And.intro (by show 0 + (o.getD i 0).toNat < bs.length; omega) ?_
      repeat (first | refine And.intro (by kernel_rfl) ?_ | refine And.intro (by decide) ?_)
      refine And.intro ⟨by show 0 + (mo l bs o i).length ≤ (mo l bs o i).length; omega, fun _ _ => rfl⟩ ?_
      refine And.intro ⟨Nat.le_of_ble_eq_true rfl, fun q hq => by have hq' : q < 1 := hq; obtain rfl : q = 0 := (by omega); rfl⟩ ?_
      refine And.intro (by show (mo l bs o i).length + 1 ≤ 4294967296; omega) ?_
      repeat (first | refine And.intro (by kernel_rfl) ?_ | refine And.intro (by decide) ?_)
      refine ⟨i + 1, ⟨by omega, by show o.length - (i + 1) < o.length - i; omega⟩, isAt.go [(5, .to 7)] ⟨congrArg (fun n => SV.o (.c (.s 7 0 n 16))) (show (mo l bs o i).length + 1 = (mo l bs o (i + 1)).length by simp [mo]), congrArg (int .i64) wi, trivial⟩ ⟨leB.rows (by simp [mo]) (fun j hj => ?_) id, trivial⟩⟩
      have hj' : j < (mo l bs o i).length + 1 := by simpa [mo] using hj
      by_cases c : j < (mo l bs o i).length
      · rw [if_pos c]
        show rcC ((mo l bs o i).getD (0 + j) zR) = rcC ((mo l bs o (i + 1)).getD j zR)
        rw [Nat.zero_add]
        simp [mo, List.getD, List.getElem?_append_left c]
      · rw [if_neg c]
        obtain rfl : j = (mo l bs o i).length := by omega
        rw [Nat.sub_self]
        have e : (mo l bs o (i + 1)).getD (mo l bs o i).length zR = ⟨IntKind.i64.wrap (100 + (i : Int)), 0, o.getD i 0, (bs.getD (0 + (o.getD i 0).toNat) zB).st, ⟨0, 0, 0, 0, 0, 0⟩⟩ := by simp [mo, moR, List.getD]
        show _ = rcC ((mo l bs o (i + 1)).getD (mo l bs o i).length zR)
        rw [e]
        rfl
    · obtain rfl : i = o.length := by have : ¬ (i : Int) < o.length := h; omega
      have st := settled l bs
      rw [← ho] at st
      repeat refine AJoin.plain ?_
      refine FC.u (mod_fc next 100 (by omega)) [] ?_
      have bq : 0 ≤ mMod next 100 ∧ mMod next 100 < 100 := mMod_bd (by omega)
      generalize mMod next 100 = q at bq
      have fw := fewer l bs o q (by omega) (by omega) bq
      refine FC.u awake_fc [] ?_
      generalize mo l bs o o.length = mr at ml st fw
      refine FC.x (fresh_fc mr bs (by omega) (by omega)) [5, 3] (fun o2 ho2 => ?_)
      have e0 : o2 = [] := ho2.trans st
      subst e0
      refine FC.u (missed_fc mr (by omega) 0 q) [5] ?_
      refine FC.u (missed_fc l (by omega) 0 q) [2] ?_
      refine bselD (fun _ => ?_) (fun c => absurd fw.1 c)
      refine FC.u (missed_fc l (by omega) 0 q) [2] ?_
      repeat (first | refine And.intro (by kernel_rfl) ?_ | refine And.intro (by decide) ?_)
      exact ⟨(), trivial, .id (congrArg boo (decide_eq_true fw.2)) ⟨.inl rfl, trivial⟩⟩
end Go.Sx.T1.Settles
